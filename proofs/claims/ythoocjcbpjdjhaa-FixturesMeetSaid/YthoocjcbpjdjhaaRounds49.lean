/-
  Chapter 49: Rounds, of the program and of the reference: the same list.
-/
import Derived.Test.YthoocjcbpjdjhaaRows
import Derived.Test.YthoocjcbpjdjhaaSpec49
import Derived.Test.YthoocjcbpjdjhaaApp
import Derived.Laws.AppendOwn
namespace Go.Proofs.Ythoocjcbpjdjhaa
open Go.RowKit

def addF (n : Int) (l : List Fx) (r h a : Int) : List Fx := if h < n ∧ a < n then l ++ [⟨r, h, a⟩] else l

/-- What the rounds of the program's loop hold: the box of n, the box of out, and the row that out leads to. -/
def RdsI (w : World) (n : Int) (l : List Fx) (wr : World) : Prop :=
  Below w.heap.size w wr ∧ wr.heap[w.heap.size]? = some (.cells #[.int .i64 n] 3 (0, 0)) ∧
    ∃ A c, wr.heap[w.heap.size + 1]? = some (.cells #[.slice A l.length c] 23 (0, 0)) ∧ OwnL fxE 3 37 (w.heap.size + 2) wr (.slice A l.length c) l

theorem Try.infoFx : (Try.prog.info? 37).map (fun i => (i.zero, i.size, i.bytes)) = some (some (.agg #[.int .i64 0, .int .i64 0, .int .i64 0]), 3, 24) := by kernel_rfl

theorem rds_add {w wr w0 w1 : World} {n : Int} {l : List Fx} {f : Fx} {A : Option Addr} {c g cap : Nat} {news : List Value} (hb : Below w.heap.size w wr) (hn : wr.heap[w.heap.size]? = some (.cells #[.int .i64 n] 3 (0, 0)))
    (ho : wr.heap[w.heap.size + 1]? = some (.cells #[.slice A l.length c] 23 (0, 0))) (hown0 : OwnL fxE 3 37 (w.heap.size + 2) wr (.slice A l.length c) l)
    (hw : Below wr.heap.size wr w0) (ha : App w0 w1 (w.heap.size + 2) 37 3 (.slice A l.length c) g cap l.length 1 (l.flatMap fxE) news) (hf : news = fxE f) :
    RdsI w n (l ++ [f]) (w1.setCell ⟨w.heap.size + 1, 0, none⟩ (.slice (some ⟨g, 0, none⟩) (l.length + 1) cap)) ∧ w1.cell? ⟨w.heap.size + 1, 0, none⟩ = some (.slice A l.length c) ∧ w1.frozen? ⟨w.heap.size + 1, 0, none⟩ = false := by
  have hlt1 : w.heap.size + 1 < wr.heap.size := (Array.getElem?_eq_some_iff.1 ho).1
  have hrow : ∀ k, (Value.slice A l.length c).ownBlock = some k → w.heap.size + 2 ≤ k ∧ k < wr.heap.size := World.ownsRow.lt hown0
  have hsz := hw.size
  have hw1 : w1.heap[w.heap.size + 1]? = some (.cells #[.slice A l.length c] 23 (0, 0)) := by
    rw [ha.grown.block _ (by omega) (fun e => by have := hrow _ e.symm; omega), hw.block _ hlt1]; exact ho
  have hw0 : w1.heap[w.heap.size]? = some (.cells #[.int .i64 n] 3 (0, 0)) := by
    rw [ha.grown.block _ (by omega) (fun e => by have := hrow _ e.symm; omega), hw.block _ (by omega)]; exact hn
  have hbw : Below w.heap.size w w1 := (hb.trans (hw.mono (by omega))).grown ha.grown (by omega) (fun k hk => by have := hrow k hk; omega)
  refine ⟨⟨hbw.setCell (by simp) _, ?_, some ⟨g, 0, none⟩, cap, ?_, ?_⟩, cell_of_one hw1, free_of_one hw1⟩
  · rw [Below.heap_setCell _ _ _ _ (by simp)]; exact hw0
  · have := one_setCell (u := .slice (some ⟨g, 0, none⟩) (l.length + 1) cap) hw1
    simpa using this
  · have h2 := ha.one hf
    have h3 := ownsRow_setCell_below (a := ⟨w.heap.size + 1, 0, none⟩) h2 (by simp) (.slice (some ⟨g, 0, none⟩) (l.length + 1) cap)
    simpa [OwnL] using h3
theorem rds_drewN {w wr : World} {n : Int} {l : List Fx} (h : RdsI w n l wr) (k : Nat) : RdsI w n l (wr.drewN k) := ⟨below_drewN h.1 k, h.2⟩

set_option maxHeartbeats 400000 in
theorem add_f (w wr : World) (n r h a : Int) (l : List Fx) (hl : l.length ≤ 1000) (hI : RdsI w n l wr) :
    Calls Try.prog 22 #[.int .i64 r, .int .i64 h, .int .i64 a, .pointer (some ⟨w.heap.size, 0, none⟩), .pointer (some ⟨w.heap.size + 1, 0, none⟩)] wr
      fun e w' => e = .returned (.tuple #[]) ∧ RdsI w n (addF n l r h a) w' := by
  have HI := Lib.hid hI
  obtain ⟨hb, hn, A, c, ho, hown⟩ := hI
  have cn := cell_of_one hn
  have co := cell_of_one ho
  have hsz : w.heap.size + 1 < wr.heap.size := (Array.getElem?_eq_some_iff.1 ho).1
  have hsz0 : w.heap.size < wr.heap.size := by omega
  by_cases h1 : h < n
  · by_cases h2 : a < n
    · have HA := Lib.hid (show addF n l r h a = l ++ [⟨r, h, a⟩] from if_pos ⟨h1, h2⟩)
      have HB := Lib.hid hb
      have HN := Lib.hid hn
      have HO := Lib.hid ho
      clear hb hn ho
      obtain ⟨i0, hi, hz0, hz1, hz2⟩ := info_parts Try.infoFx
      go_enter Try.func22, Try.ntmps22
      go_wp2_with (at_builtin; refine wpList_app _ rfl (.tmp 16) (.tmp 21) 23 rfl (w.heap.size + 2) 37 i0 _ 3 24 Try.underlying23 hi hz0 hz1 hz2 rfl (by decide) _ _ _ rfl (hown.alloc _) ⟨wr.heap.size, 0, none⟩ 1 1 [.int .i64 r, .int .i64 h, .int .i64 a] rfl rfl ?c1 ?c2 (by decide) ?c3 ?c4 ?c5 ?_)
      case c1 => exact news_new wr _ _
      case c2 => simp [Value.oneCell']
      case c3 => unfold maxLen; omega
      case c4 => omega
      case c5 => simp; omega
      · intro g cap w1 ha
        obtain ⟨R, hcell, hfroz⟩ := rds_add (f := ⟨r, h, a⟩) HB.out HN.out HO.out hown (cur_new wr _) ha rfl
        clear ha hown
        go_wp2
        go_end0
        exact ⟨rfl, by rw [HA.out]; exact R⟩
    · have HA := Lib.hid (show addF n l r h a = l from if_neg (fun q => h2 q.2))
      clear hb hn ho
      go_enter Try.func22, Try.ntmps22
      go_wp2
      go_end0
      exact ⟨rfl, by rw [HA.out]; exact HI.out⟩
  · have HA := Lib.hid (show addF n l r h a = l from if_neg (fun q => h1 q.1))
    clear hb hn ho
    go_enter Try.func22, Try.ntmps22
    go_wp2
    go_end0
    exact ⟨rfl, by rw [HA.out]; exact HI.out⟩

def firstF (n r : Int) (l : List Fx) : List Fx := if r % 2 = 1 then addF n l r (n + n % 2 - 1) r else addF n l r r (n + n % 2 - 1)
def pairF (n r k : Int) (l : List Fx) : List Fx :=
  if k % 2 = 1 then addF n l r ((r + k) % (n + n % 2 - 1)) ((r - k + (n + n % 2) - 1) % (n + n % 2 - 1)) else addF n l r ((r - k + (n + n % 2) - 1) % (n + n % 2 - 1)) ((r + k) % (n + n % 2 - 1))
def innerF (n r : Int) (l : List Fx) : Nat → List Fx
  | 0 => firstF n r l
  | k + 1 => pairF n r (k + 1) (innerF n r l k)
def outerF (n : Int) : Nat → List Fx
  | 0 => []
  | r + 1 => innerF n r (outerF n r) ((n + n % 2) / 2 - 1).toNat
def backF (n : Int) (f : Fx) : Fx := ⟨f.r + (n + n % 2) - 1, f.a, f.h⟩
def roundsL (n : Int) (d : Bool) : List Fx :=
  if d then outerF n (n + n % 2 - 1).toNat ++ (outerF n (n + n % 2 - 1).toNat).map (backF n) else outerF n (n + n % 2 - 1).toNat

theorem addF_len (n : Int) (l : List Fx) (r h a : Int) : (addF n l r h a).length ≤ l.length + 1 := by unfold addF; split <;> simp
theorem firstF_len (n r : Int) (l : List Fx) : (firstF n r l).length ≤ l.length + 1 := by unfold firstF; split <;> exact addF_len _ _ _ _ _
theorem pairF_len (n r k : Int) (l : List Fx) : (pairF n r k l).length ≤ l.length + 1 := by unfold pairF; split <;> exact addF_len _ _ _ _ _
theorem innerF_len (n r : Int) (l : List Fx) (k : Nat) : (innerF n r l k).length ≤ l.length + k + 1 := by
  induction k with
  | zero => exact firstF_len _ _ _
  | succ k ih => have := pairF_len n r (k + 1) (innerF n r l k); simp only [innerF]; omega
theorem outerF_len (n : Int) (h2 : n ≤ 20) (k : Nat) : (outerF n k).length ≤ 10 * k := by
  induction k with
  | zero => simp [outerF]
  | succ k ih => have := innerF_len n k (outerF n k) ((n + n % 2) / 2 - 1).toNat; simp only [outerF]; omega
theorem addF_all {p : Fx → Prop} {n r h a : Int} {l : List Fx} (hl : ∀ f ∈ l, p f) (hf : p ⟨r, h, a⟩) : ∀ f ∈ addF n l r h a, p f := by
  unfold addF; split
  · intro f hm; rcases List.mem_append.1 hm with h' | h'
    · exact hl f h'
    · simp at h'; subst h'; exact hf
  · exact hl
def okF (f : Fx) : Prop := 0 ≤ f.r ∧ f.r ≤ 100
theorem innerF_ok {n r : Int} {l : List Fx} (h0 : 0 ≤ r) (h1 : r ≤ 100) (hl : ∀ f ∈ l, okF f) (k : Nat) : ∀ f ∈ innerF n r l k, okF f := by
  induction k with
  | zero => unfold innerF firstF; split <;> exact addF_all hl ⟨h0, h1⟩
  | succ k ih => unfold innerF pairF; split <;> exact addF_all ih ⟨h0, h1⟩
theorem outerF_ok {n : Int} (k : Nat) (hk : k ≤ 100) : ∀ f ∈ outerF n k, okF f := by
  induction k with
  | zero => simp [outerF]
  | succ k ih => exact innerF_ok (by omega) (by omega) (ih (by omega)) _

set_option maxHeartbeats 1000000 in
theorem rounds_bad (n : Int) (d : Bool) (w : World) (h : n < 2 ∨ 20 < n) :
    Calls Try.prog 9 #[.int .i64 n, .bool d] w fun e w' => e = .returned (.tuple #[.slice none 0 0, .int .i64 2]) ∧ Below w.heap.size w w' := by
  by_cases h1 : n < 2
  · clear h
    go_enter Try.func9, Try.ntmps9
    go_wp2
    go_ret2
    exact ⟨rfl, (Below.refl _ _).alloc (Nat.le_refl _) _⟩
  · have h2 : 20 < n := by omega
    clear h
    go_enter Try.func9, Try.ntmps9
    go_wp2
    go_ret2
    exact ⟨rfl, (Below.refl _ _).alloc (Nat.le_refl _) _⟩

theorem rds_start (w : World) (n : Int) : RdsI w n [] ((w.alloc (.cells #[.int .i64 n] 3)).alloc (.cells #[.slice none 0 0] 23)) := by
  refine ⟨((Below.refl _ _).alloc (Nat.le_refl _) _).alloc (by simp) _, ?_, none, 0, ?_, World.ownsRow_nil _ _ _ _⟩
  · rw [Below.heap_alloc _ _ _ (by simp)]; exact heap_alloc_new w _
  · have := heap_alloc_new (w.alloc (.cells #[.int .i64 n] 3)) (.cells #[.slice none 0 0] 23)
    simpa using this

def OutI (w : World) (n : Int) (i : Value) (wr : World) : Prop := ∃ r : Nat, r ≤ (n + n % 2 - 1).toNat ∧ i = .int .i64 r ∧ RdsI w n (outerF n r) wr
def InI (w : World) (n : Int) (r : Nat) (i : Value) (wr : World) : Prop := ∃ k : Nat, k ≤ ((n + n % 2) / 2 - 1).toNat ∧ i = .int .i64 (k + 1) ∧ RdsI w n (innerF n r (outerF n r) k) wr

theorem dbl_next {n : Int} {L0 : List Fx} {k : Nat} {x : Fx} (h : L0[k]? = some x) : L0 ++ (L0.take (k + 1)).map (backF n) = (L0 ++ (L0.take k).map (backF n)) ++ [backF n x] := by
  rw [List.take_add_one, h]
  simp
theorem rounds_len (n : Int) (d : Bool) (h2 : n ≤ 20) : (roundsL n d).length ≤ 400 := by
  unfold roundsL
  have h3 : (n + n % 2 - 1).toNat ≤ 19 := by omega
  generalize (n + n % 2 - 1).toNat = k at *
  have := outerF_len n h2 k
  split
  · rw [List.length_append, List.length_map]; omega
  · omega
def DblI (w : World) (n : Int) (L0 : List Fx) (A0 : Option Addr) (i : Value) (wr : World) : Prop :=
  ∃ k : Nat, k ≤ L0.length ∧ i = .int .i64 k ∧ RdsI w n (L0 ++ (L0.take k).map (backF n)) wr ∧ Rd fxE 3 wr wr.heap.size A0 L0 ∧ ∀ b off, A0 = some ⟨b, off, none⟩ → w.heap.size + 2 ≤ b ∧ off = 0
theorem dbl_start {w wr : World} {n : Int} {l : List Fx} {A : Option Addr} {c : Nat} (hb : Below w.heap.size w wr) (hn : wr.heap[w.heap.size]? = some (.cells #[.int .i64 n] 3 (0, 0)))
    (ho : wr.heap[w.heap.size + 1]? = some (.cells #[.slice A l.length c] 23 (0, 0))) (hown : OwnL fxE 3 37 (w.heap.size + 2) wr (.slice A l.length c) l) : DblI w n l A (.int .i64 0) wr := by
  obtain ⟨A', c', hv, hrd, hbase⟩ := hown.rd fxE_len
  injection hv with hv1 hv2 hv3
  subst hv1 hv3
  have hh : RdsI w n l wr := ⟨hb, hn, A, c, ho, hown⟩
  exact ⟨0, Nat.zero_le _, rfl, by simpa using hh, hrd, hbase⟩
theorem dbl_rd {w wr w0 w1 : World} {l L0 : List Fx} {A0 A : Option Addr} {c g cap : Nat} {news : List Value} {u : Value} (hR : Rd fxE 3 wr wr.heap.size A0 L0)
    (hw : Below wr.heap.size wr w0) (ha : App w0 w1 (w.heap.size + 2) 37 3 (.slice A l.length c) g cap l.length 1 (l.flatMap fxE) news) (hle : L0.length ≤ l.length)
    (hbase : ∀ b off, A0 = some ⟨b, off, none⟩ → w.heap.size + 2 ≤ b ∧ off = 0) :
    Rd fxE 3 (w1.setCell ⟨w.heap.size + 1, 0, none⟩ u) (w1.setCell ⟨w.heap.size + 1, 0, none⟩ u).heap.size A0 L0 := by
  have h2 : Rd fxE 3 w1 wr.heap.size A0 L0 := by
    intro k x hx
    obtain ⟨b, off, e, hb, hc⟩ := (hR.below hw) k x hx
    refine ⟨b, off, e, hb, fun j v hv => (ha.keep _ _ (Nat.lt_of_lt_of_le hb hw.size) fun hv' => ?_).trans (hc j v hv)⟩
    have h0 := (hbase b off e).2
    have hj : j < 3 := by have := (List.getElem?_eq_some_iff.1 hv).1; rw [fxE_len] at this; exact this
    have hk : k < L0.length := (List.getElem?_eq_some_iff.1 hx).1
    omega
  have hs1 : wr.heap.size ≤ w1.heap.size := Nat.le_trans hw.size ha.grown.size
  have h3 : Rd fxE 3 (w1.setCell ⟨w.heap.size + 1, 0, none⟩ u) wr.heap.size A0 L0 := by
    intro k x hx
    obtain ⟨b, off, e, hb, hc⟩ := h2 k x hx
    refine ⟨b, off, e, hb, fun j v hv => (World.cell?_of_block (a := ⟨b, off + k * 3 + j, none⟩) (Below.heap_setCell _ _ _ _ ?_)).trans (hc j v hv)⟩
    have h0 := (hbase b off e).1
    show b ≠ w.heap.size + 1
    omega
  exact h3.more (by simpa [World.setCell] using hs1)
set_option maxHeartbeats 2000000 in
theorem rounds_good (n : Int) (d : Bool) (w : World) (h1 : 2 ≤ n) (h2 : n ≤ 20) :
    Calls Try.prog 9 #[.int .i64 n, .bool d] w fun e w' => ∃ v, e = .returned (.tuple #[v, .int .i64 0]) ∧ OwnL fxE 3 37 w.heap.size w' v (roundsL n d) ∧ Below w.heap.size w w' := by
  go_enter Try.func9, Try.ntmps9
  go_wp2
  go_loopw [28] (OutI w n) (fun i _ => (n + n % 2 - 1).toNat - (intOf i).toNat)
  case atStart => exact ⟨0, Nat.zero_le _, rfl, rds_start w n⟩
  case round =>
    obtain ⟨r, hr, rfl, hI⟩ := hrel
    by_cases hlt : (r : Int) < n + n % 2 - 1
    · have hq : (r : Int) ≤ 20 := by omega
      have HF1 : (r : Int) % 2 = 1 → addF n (outerF n r) r (n + n % 2 - 1) r = innerF n r (outerF n r) 0 := fun h => by unfold innerF firstF; rw [if_pos h]
      have HF2 : ¬ (r : Int) % 2 = 1 → addF n (outerF n r) r r (n + n % 2 - 1) = innerF n r (outerF n r) 0 := fun h => by unfold innerF firstF; rw [if_neg h]
      have HG1 := Lib.hid HF1
      have HG2 := Lib.hid HF2
      clear HF1 HF2
      obtain ⟨wo, rfl⟩ : ∃ wo : World, wo = wr := ⟨_, rfl⟩
      by_cases hp : (r : Int) % 2 = 1
      all_goals
        have HP := Lib.hid hp
        have e1 : ((r : Int) % 2 == 1) = true ∨ ((r : Int) % 2 == 1) = false := by cases ((r : Int) % 2 == 1) <;> simp
        go_wp2_with (go_at_call 22; refine (add_f w _ n _ _ _ (outerF n r) (by have := outerF_len n h2 r; omega) hI).mono ?_; rintro e w1 ⟨rfl, hI1⟩)
        go_loopw [10] (InI w n r) (fun i _ => ((n + n % 2) / 2).toNat - (intOf i).toNat)
        case atStart => exact ⟨0, Nat.zero_le _, rfl, by (first | rw [HG1.out HP.out] at hI1 | rw [HG2.out HP.out] at hI1); exact hI1⟩
        case round =>
          obtain ⟨k, hk, rfl, hJ⟩ := hrel
          by_cases hlk : (k : Int) + 1 < (n + n % 2) / 2
          · go_wp2_with fail
            go_quiet (fail)
            have hJ2 := rds_drewN hJ nq
            have hlen : (innerF n r (outerF n r) k).length ≤ 1000 := by have := innerF_len n r (outerF n r) k; have := outerF_len n h2 r; omega
            by_cases hp2 : ((k : Int) + 1) % 2 = 1
            · have HP2 := Lib.hid hp2
              have e2 : (((k : Int) + 1) % 2 == 1) = true := by simpa using hp2
              go_wp2_with (go_at_call 22; refine (add_f w _ n _ _ _ (innerF n r (outerF n r) k) hlen hJ2).mono ?_; rintro e w1 ⟨rfl, hI2⟩)
              go_roundw
              case rel => exact ⟨k + 1, by omega, by simp, by unfold innerF pairF; rw [if_pos HP2.out]; exact hI2⟩
              case measure => simp [intOf]; omega
            · have HP2 := Lib.hid hp2
              have e2 : (((k : Int) + 1) % 2 == 1) = false := by simpa using hp2
              go_wp2_with (go_at_call 22; refine (add_f w _ n _ _ _ (innerF n r (outerF n r) k) hlen hJ2).mono ?_; rintro e w1 ⟨rfl, hI2⟩)
              go_roundw
              case rel => exact ⟨k + 1, by omega, by simp, by unfold innerF pairF; rw [if_neg HP2.out]; exact hI2⟩
              case measure => simp [intOf]; omega
          · have hkk : k = ((n + n % 2) / 2 - 1).toNat := by omega
            have HK := Lib.hid hkk
            clear hkk
            go_wp2
            go_roundw
            case rel => exact ⟨r + 1, by omega, by simp, by rw [HK.out] at hJ; exact hJ⟩
            case measure => simp [intOf]; omega
    · have hrr : r = (n + n % 2 - 1).toNat := by omega
      have HR := Lib.hid hrr
      clear hrr
      obtain ⟨hb, hn, A, c, ho, hown⟩ := hI
      have co := cell_of_one ho
      cases d
      · go_wp2
        go_ret2
        exact ⟨_, rfl, by unfold roundsL; rw [← HR.out]; exact own_mono hown (by omega), hb⟩
      · have hcap := own_cap hown
        have hlen : (outerF n r).length ≤ 200 := by have := outerF_len n h2 r; omega
        have hD := dbl_start hb hn ho hown
        have hok := outerF_ok (n := n) r (by omega)
        have HOK := Lib.hid hok
        clear hok hown hb hn ho
        obtain ⟨L0, hL0⟩ : ∃ L0, L0 = outerF n r := ⟨_, rfl⟩
        rw [← hL0] at hD HOK co hcap hlen
        have HL := Lib.hid hL0
        clear hL0
        go_wp2
        go_loopw [89] (DblI w n L0 A) (fun i _ => L0.length - (intOf i).toNat)
        case atStart => exact hD
        case round =>
          obtain ⟨k, hk, rfl, hI, hR, hbase⟩ := hrel
          by_cases hlk : k < L0.length
          · obtain ⟨x, hx⟩ : ∃ x, L0[k]? = some x := ⟨_, List.getElem?_eq_getElem hlk⟩
            obtain ⟨hb, hn, A1, c1, ho, hown⟩ := hI
            have HE := Lib.hid (dbl_next (n := n) hx)
            obtain ⟨b, off, rfl, hbb, d0, d1, d2⟩ := rdFx hR (Below.refl _ _) hx
            have hxo := HOK.out x (List.mem_of_getElem? hx)
            have hz : w.heap.size + 1 < wr.heap.size := (Array.getElem?_eq_some_iff.1 ho).1
            have co1 := cell_of_one ho
            have hlen2 : (L0 ++ (L0.take k).map (backF n)).length ≤ 400 := by simp; omega
            unfold okF at hxo
            have hx0 : -1000 ≤ x.r := by omega
            have hx1 : x.r ≤ 1000 := by omega
            obtain ⟨i0, hi, hz0, hz1, hz2⟩ := info_parts Try.infoFx
            have HX := Lib.hid hx
            have HB := Lib.hid hb
            have HN := Lib.hid hn
            have HO := Lib.hid ho
            have HW := Lib.hid hown
            have HR2 := Lib.hid hR
            have HBS := Lib.hid hbase
            clear hx hb hn ho hR hxo hbase
            obtain ⟨L, hL⟩ : ∃ L, L = L0 ++ (L0.take k).map (backF n) := ⟨_, rfl⟩
            have HLL := Lib.hid hL
            rw [← hL] at co1 hown hlen2 HO HW
            clear hL
            go_wp2_with (at_builtin; refine wpList_app _ rfl (.tmp 93) (.tmp 104) 23 rfl (w.heap.size + 2) 37 i0 _ 3 24 Try.underlying23 hi hz0 hz1 hz2 rfl (by decide) _ _ _ rfl ((hown.alloc _).alloc _) ⟨wr.heap.size + 1, 0, none⟩ 1 1 (fxE (backF n x)) rfl rfl ?c1 ?c2 (by decide) ?c3 ?c4 ?c5 ?_)
            case c1 => exact by simpa [fxE, backF] using news_new (wr.alloc (.cells #[.int .i64 x.r, .int .i64 x.h, .int .i64 x.a] 37)) (fxE (backF n x)) 37
            case c2 => simp [fxE, Value.oneCell']
            case c3 => unfold maxLen; omega
            case c4 => omega
            case c5 => simp; omega
            · intro g cap w1 ha
              obtain ⟨R, hcell, hfroz⟩ := rds_add (f := backF n x) HB.out HN.out HO.out HW.out (cur_step1 (cur_new wr _) (cur_new _ _)) ha rfl
              have hRd := dbl_rd (u := .slice (some ⟨g, 0, none⟩) (L.length + 1) cap) (HR2.out) (cur_step1 (cur_new wr _) (cur_new _ _)) ha (by rw [HLL.out]; simp) HBS.out
              clear ha hown
              go_wp2
              go_roundw
              case rel => exact ⟨k + 1, hlk, by simp, by rw [HE.out, ← HLL.out]; exact R, hRd, HBS.out⟩
              case measure => simp [intOf]; omega
          · have hk2 : k = L0.length := by omega
            have HK2 := Lib.hid hk2
            clear hk2
            obtain ⟨hb, hn, A1, c1, ho, hown⟩ := hI
            have h3 : OwnL fxE 3 37 w.heap.size wr (.slice A1 (L0 ++ (L0.take k).map (backF n)).length c1) (roundsL n true) := by
              have h4 := own_mono hown (show w.heap.size ≤ w.heap.size + 2 by omega)
              unfold roundsL
              rw [if_pos rfl, ← HR.out, ← HL.out]
              rw [HK2.out, List.take_length] at h4 ⊢
              exact h4
            obtain ⟨L, hL⟩ : ∃ L, L = L0 ++ (L0.take k).map (backF n) := ⟨_, rfl⟩
            rw [← hL] at ho h3
            have co1 := cell_of_one ho
            clear hL hown ho hn hR hbase
            go_wp2
            go_ret2
            exact ⟨_, rfl, h3, hb⟩
end Go.Proofs.Ythoocjcbpjdjhaa
