/-
  Chapter 49: the small functions that only read: plays, known, taken, season, earliest, Homes, rounds, again, equal.
-/
import Derived.Test.YthoocjcbpjdjhaaRows
import Derived.Test.YthoocjcbpjdjhaaSpec49
namespace Go.Proofs.Ythoocjcbpjdjhaa
open Go.RowKit

theorem take_next {α : Type} {l : List α} {k : Nat} {x : α} (h : l[k]? = some x) : l.take (k + 1) = l.take k ++ [x] := by
  rw [List.take_add_one, h]; rfl
theorem any_hit {α : Type} {l : List α} {k : Nat} {x : α} {q : α → Bool} (h : l[k]? = some x) (hq : q x = true) : l.any q = true :=
  List.any_eq_true.2 ⟨x, List.mem_of_getElem? h, hq⟩
theorem any_miss {α : Type} {l : List α} {k : Nat} {x : α} {q : α → Bool} (h : l[k]? = some x) (ht : (l.take k).any q = false) (hq : q x = false) : (l.take (k + 1)).any q = false := by
  rw [take_next h, List.any_append, ht]; simp [hq]

def IdxB (w : World) (n : Nat) (p : Nat → Prop) (i : Value) (wr : World) : Prop := ∃ k : Nat, k ≤ n ∧ i = .int .i64 k ∧ p k ∧ Below w.heap.size w wr
theorem IdxB.start {w : World} {n : Nat} {p : Nat → Prop} (h : p 0) : IdxB w n p (.int .i64 0) w := ⟨0, Nat.zero_le _, rfl, h, Below.refl _ _⟩
theorem IdxB.start' {w w1 : World} {n : Nat} {p : Nat → Prop} (hb : Below w.heap.size w w1) (h : p 0) : IdxB w n p (.int .i64 0) w1 := ⟨0, Nat.zero_le _, rfl, h, hb⟩
theorem IdxB.next {w wr : World} {n k : Nat} {p : Nat → Prop} (hb : Below w.heap.size w wr) (hk : k < n) (h : p (k + 1)) : IdxB w n p (.int .i64 (k + 1)) wr := ⟨k + 1, hk, by simp, h, hb⟩
/-- The same with a second slot that holds a number, which is a function of the index. -/
def IdxF (w : World) (n : Nat) (f : Nat → Int) (s i : Value) (wr : World) : Prop := ∃ k : Nat, k ≤ n ∧ i = .int .i64 k ∧ s = .int .i64 (f k) ∧ Below w.heap.size w wr


theorem plays_f (f : Fx) (t : Int) (w : World) :
    Calls Try.prog 25 #[f.val, .int .i64 t] w fun e w' => e = .returned (.bool (playsL f t)) ∧ Below w.heap.size w w' := by
  obtain ⟨r, h, a⟩ := f
  unfold Fx.val playsL
  by_cases h1 : h = t
  · have e1 : (h == t) = true := by simpa using h1
    go_enter Try.func25, Try.ntmps25
    go_wp2
    go_ret
    exact ⟨by simp [e1], (Below.refl _ _).alloc (Nat.le_refl _) _⟩
  · have e1 : (h == t) = false := by simpa using h1
    go_enter Try.func25, Try.ntmps25
    go_wp2
    go_ret
    exact ⟨by simp [e1], (Below.refl _ _).alloc (Nat.le_refl _) _⟩


theorem plays_r (f : Fx) (t : Int) (w : World) :
    Calls Try.prog 31 #[f.val, .int .i64 t] w fun e w' => e = .returned (.bool (playsL f t)) ∧ Below w.heap.size w w' := by
  obtain ⟨r, h, a⟩ := f
  unfold Fx.val playsL
  by_cases h1 : h = t
  · have e1 : (h == t) = true := by simpa using h1
    go_enter Try.func31, Try.ntmps31
    go_wp2
    go_ret
    exact ⟨by simp [e1], (Below.refl _ _).alloc (Nat.le_refl _) _⟩
  · have e1 : (h == t) = false := by simpa using h1
    go_enter Try.func31, Try.ntmps31
    go_wp2
    go_ret
    exact ⟨by simp [e1], (Below.refl _ _).alloc (Nat.le_refl _) _⟩


set_option maxHeartbeats 400000 in
theorem taken_f (A : Option Addr) (c : Nat) (l : List Pf) (g d : Int) (w : World) (hl : l.length ≤ 1000) (hr : Rd pfE 5 w w.heap.size A l) :
    Calls Try.prog 26 #[.slice A l.length c, .int .i64 g, .int .i64 d] w fun e w' => e = .returned (.bool (takenL l g d)) ∧ Below w.heap.size w w' := by
  go_enter Try.func26, Try.ntmps26
  go_wp2
  go_loopw [11] (IdxB w l.length (fun k => takenL (l.take k) g d = false)) (fun i _ => l.length - (intOf i).toNat)
  case atStart => exact IdxB.start rfl
  case round =>
    obtain ⟨k, hk, rfl, ht, hb⟩ := hrel
    have HT := Lib.hid ht
    have hsz := hb.size
    clear ht
    by_cases hlt : k < l.length
    · obtain ⟨p, hp⟩ : ∃ p, l[k]? = some p := ⟨_, List.getElem?_eq_getElem hlt⟩
      obtain ⟨b, off, rfl, hbb, c0, c1, c2, c3, c4⟩ := rdPf hr hb hp
      have HP := Lib.hid hp
      clear hp
      by_cases h1 : p.g = g
      · by_cases h2 : p.d = d
        · have e1 : (p.g == g) = true := by simpa using h1
          have e2 : (p.d == d) = true := by simpa using h2
          have hit : takenL l g d = true := any_hit (k := k) (x := p) HP.out (by simp [e1, e2])
          have HI := Lib.hid hit
          clear hit h1 h2
          go_wp2
          go_ret
          exact ⟨ret_bool HI.out.symm, hb.alloc hsz _⟩
        · have e1 : (p.g == g) = true := by simpa using h1
          have e2 : (p.d == d) = false := by simpa using h2
          have hm : takenL (l.take (k + 1)) g d = false := any_miss (k := k) (x := p) HP.out HT.out (by simp [e1, e2])
          have HI := Lib.hid hm
          clear hm h1 h2
          go_wp2
          go_roundw
          case rel => exact IdxB.next (hb.alloc hsz _) hlt HI.out
          case measure => simp [intOf]; omega
      · have e1 : (p.g == g) = false := by simpa using h1
        have hm : takenL (l.take (k + 1)) g d = false := any_miss (k := k) (x := p) HP.out HT.out (by simp [e1])
        have HI := Lib.hid hm
        clear hm h1
        go_wp2
        go_roundw
        case rel => exact IdxB.next (hb.alloc hsz _) hlt HI.out
        case measure => simp [intOf]; omega
    · go_wp2
      go_ret
      exact ⟨ret_bool (by rw [← HT.out, List.take_of_length_le (by omega)]), hb⟩


set_option maxHeartbeats 400000 in
theorem taken_r (A : Option Addr) (c : Nat) (l : List Pf) (g d : Int) (w : World) (hl : l.length ≤ 1000) (hr : Rd pfE 5 w w.heap.size A l) :
    Calls Try.prog 30 #[.slice A l.length c, .int .i64 g, .int .i64 d] w fun e w' => e = .returned (.bool (takenL l g d)) ∧ Below w.heap.size w w' := by
  go_enter Try.func30, Try.ntmps30
  go_wp2
  go_loopw [11] (IdxB w l.length (fun k => takenL (l.take k) g d = false)) (fun i _ => l.length - (intOf i).toNat)
  case atStart => exact IdxB.start rfl
  case round =>
    obtain ⟨k, hk, rfl, ht, hb⟩ := hrel
    have HT := Lib.hid ht
    have hsz := hb.size
    clear ht
    by_cases hlt : k < l.length
    · obtain ⟨p, hp⟩ : ∃ p, l[k]? = some p := ⟨_, List.getElem?_eq_getElem hlt⟩
      obtain ⟨b, off, rfl, hbb, c0, c1, c2, c3, c4⟩ := rdPf hr hb hp
      have HP := Lib.hid hp
      clear hp
      by_cases h1 : p.g = g
      · by_cases h2 : p.d = d
        · have e1 : (p.g == g) = true := by simpa using h1
          have e2 : (p.d == d) = true := by simpa using h2
          have hit : takenL l g d = true := any_hit (k := k) (x := p) HP.out (by simp [e1, e2])
          have HI := Lib.hid hit
          clear hit h1 h2
          go_wp2
          go_ret
          exact ⟨ret_bool HI.out.symm, hb.alloc hsz _⟩
        · have e1 : (p.g == g) = true := by simpa using h1
          have e2 : (p.d == d) = false := by simpa using h2
          have hm : takenL (l.take (k + 1)) g d = false := any_miss (k := k) (x := p) HP.out HT.out (by simp [e1, e2])
          have HI := Lib.hid hm
          clear hm h1 h2
          go_wp2
          go_roundw
          case rel => exact IdxB.next (hb.alloc hsz _) hlt HI.out
          case measure => simp [intOf]; omega
      · have e1 : (p.g == g) = false := by simpa using h1
        have hm : takenL (l.take (k + 1)) g d = false := any_miss (k := k) (x := p) HP.out HT.out (by simp [e1])
        have HI := Lib.hid hm
        clear hm h1
        go_wp2
        go_roundw
        case rel => exact IdxB.next (hb.alloc hsz _) hlt HI.out
        case measure => simp [intOf]; omega
    · go_wp2
      go_ret
      exact ⟨ret_bool (by rw [← HT.out, List.take_of_length_le (by omega)]), hb⟩


set_option maxHeartbeats 400000 in
theorem known_f (f : Fx) (x y : Int) (A : Option Addr) (n c : Nat) (w : World) :
    Calls Try.prog 24 #[f.val, .agg #[.int .i64 x, .int .i64 y, .slice A n c]] w fun e w' => e = .returned (.bool (knownL f n)) ∧ Below w.heap.size w w' := by
  obtain ⟨r, h, a⟩ := f
  unfold Fx.val
  go_enter Try.func24, Try.ntmps24
  go_wp2
  all_goals
    go_ret
    exact ⟨ret_bool (by simp only [knownL]; simp [*, bne] <;> omega), ((Below.refl _ _).alloc (Nat.le_refl _) _).alloc (by simp) _⟩


set_option maxHeartbeats 400000 in
theorem known_r (f : Fx) (x y : Int) (A : Option Addr) (n c : Nat) (w : World) :
    Calls Try.prog 28 #[f.val, .agg #[.int .i64 x, .int .i64 y, .slice A n c]] w fun e w' => e = .returned (.bool (knownL f n)) ∧ Below w.heap.size w w' := by
  obtain ⟨r, h, a⟩ := f
  unfold Fx.val
  go_enter Try.func28, Try.ntmps28
  go_wp2
  all_goals
    go_ret
    exact ⟨ret_bool (by simp only [knownL]; simp [*, bne] <;> omega), ((Below.refl _ _).alloc (Nat.le_refl _) _).alloc (by simp) _⟩


set_option maxHeartbeats 1000000 in
theorem season_f (n x y : Int) (A : Option Addr) (c : Nat) (l : List Int) (w : World) (hr : Rd inE 1 w w.heap.size A l) (hl : l.length ≤ 9223372036854775807) :
    Calls Try.prog 23 #[.int .i64 n, .agg #[.int .i64 x, .int .i64 y, .slice A l.length c]] w fun e w' => e = .returned (.int .i64 (seasonL n x y l)) ∧ Below w.heap.size w w' := by
  have hb0 : ∀ o, Below w.heap.size w (w.alloc o) := fun o => (Below.refl _ _).alloc (Nat.le_refl _) _
  by_cases h1 : 400 < n ∨ 20 < (l.length : Int)
  · have HS := Lib.hid (show seasonL n x y l = 9 by unfold seasonL; rw [if_pos h1])
    rcases h1 with h1 | h1
    · go_enter Try.func23, Try.ntmps23
      go_wp2
      go_ret
      exact ⟨ret_int HS.out.symm, hb0 _⟩
    · by_cases h2 : 400 < n
      · go_enter Try.func23, Try.ntmps23
        go_wp2
        go_ret
        exact ⟨ret_int HS.out.symm, hb0 _⟩
      · go_enter Try.func23, Try.ntmps23
        go_wp2
        go_ret
        exact ⟨ret_int HS.out.symm, hb0 _⟩
  by_cases h2 : x < 0 ∨ 109572 < x ∨ y < 0 ∨ 400 < y
  · have HS := Lib.hid (show seasonL n x y l = 2 by unfold seasonL; rw [if_neg h1, if_pos h2])
    have h3 : ¬ 400 < n := by omega
    have h4 : ¬ 20 < (l.length : Int) := by omega
    clear h1
    by_cases g1 : x < 0
    · clear h2
      go_enter Try.func23, Try.ntmps23
      go_wp2
      go_ret
      exact ⟨ret_int HS.out.symm, hb0 _⟩
    by_cases g2 : 109572 < x
    · clear h2
      go_enter Try.func23, Try.ntmps23
      go_wp2
      go_ret
      exact ⟨ret_int HS.out.symm, hb0 _⟩
    by_cases g3 : y < 0
    · clear h2
      go_enter Try.func23, Try.ntmps23
      go_wp2
      go_ret
      exact ⟨ret_int HS.out.symm, hb0 _⟩
    have g4 : 400 < y := by omega
    clear h2
    go_enter Try.func23, Try.ntmps23
    go_wp2
    go_ret
    exact ⟨ret_int HS.out.symm, hb0 _⟩
  have HS := Lib.hid (show seasonL n x y l = if l.any badGround then 2 else 0 by unfold seasonL; rw [if_neg h1, if_neg h2])
  have h3 : ¬ 400 < n := by omega
  have h4 : ¬ 20 < (l.length : Int) := by omega
  have g1 : ¬ x < 0 := by omega
  have g2 : ¬ 109572 < x := by omega
  have g3 : ¬ y < 0 := by omega
  have g4 : ¬ 400 < y := by omega
  clear h1 h2
  go_enter Try.func23, Try.ntmps23
  go_wp2
  go_loopw [38] (IdxB w l.length (fun k => (l.take k).any badGround = false)) (fun i _ => l.length - (intOf i).toNat)
  case atStart => exact IdxB.start' (hb0 _) rfl
  case round =>
    obtain ⟨k, hk, rfl, ht, hb⟩ := hrel
    have HT := Lib.hid ht
    have hsz := hb.size
    clear ht
    by_cases hlt : k < l.length
    · obtain ⟨p, hp⟩ : ∃ p, l[k]? = some p := ⟨_, List.getElem?_eq_getElem hlt⟩
      obtain ⟨b, off, rfl, hbb, c0⟩ := rdIn hr hb hp
      have HP := Lib.hid hp
      clear hp
      by_cases h1 : p < 0
      · have hit : l.any badGround = true := any_hit (k := k) (x := p) HP.out (by unfold badGround; simp; omega)
        have HI := Lib.hid hit
        clear hit
        go_wp2
        go_ret
        exact ⟨ret_int (by rw [HS.out, HI.out]; rfl), hb⟩
      by_cases h2 : 20 ≤ p
      · have hit : l.any badGround = true := any_hit (k := k) (x := p) HP.out (by unfold badGround; simp; omega)
        have HI := Lib.hid hit
        clear hit
        go_wp2
        go_ret
        exact ⟨ret_int (by rw [HS.out, HI.out]; rfl), hb⟩
      have hm : (l.take (k + 1)).any badGround = false := any_miss (k := k) (x := p) HP.out HT.out (by unfold badGround; simp; omega)
      have HI := Lib.hid hm
      clear hm
      go_wp2
      go_roundw
      case rel => exact IdxB.next hb hlt HI.out
      case measure => simp [intOf]; omega
    · go_wp2
      go_ret
      exact ⟨ret_int (by rw [HS.out]; have := HT.out; rw [List.take_of_length_le (by omega)] at this; rw [this]; rfl), hb⟩


set_option maxHeartbeats 1000000 in
theorem season_r (n x y : Int) (A : Option Addr) (c : Nat) (l : List Int) (w : World) (hr : Rd inE 1 w w.heap.size A l) (hl : l.length ≤ 9223372036854775807) :
    Calls Try.prog 27 #[.int .i64 n, .agg #[.int .i64 x, .int .i64 y, .slice A l.length c]] w fun e w' => e = .returned (.int .i64 (seasonL n x y l)) ∧ Below w.heap.size w w' := by
  have hb0 : ∀ o, Below w.heap.size w (w.alloc o) := fun o => (Below.refl _ _).alloc (Nat.le_refl _) _
  by_cases h1 : 400 < n ∨ 20 < (l.length : Int)
  · have HS := Lib.hid (show seasonL n x y l = 9 by unfold seasonL; rw [if_pos h1])
    rcases h1 with h1 | h1
    · go_enter Try.func27, Try.ntmps27
      go_wp2
      go_ret
      exact ⟨ret_int HS.out.symm, hb0 _⟩
    · by_cases h2 : 400 < n
      · go_enter Try.func27, Try.ntmps27
        go_wp2
        go_ret
        exact ⟨ret_int HS.out.symm, hb0 _⟩
      · go_enter Try.func27, Try.ntmps27
        go_wp2
        go_ret
        exact ⟨ret_int HS.out.symm, hb0 _⟩
  by_cases h2 : x < 0 ∨ 109572 < x ∨ y < 0 ∨ 400 < y
  · have HS := Lib.hid (show seasonL n x y l = 2 by unfold seasonL; rw [if_neg h1, if_pos h2])
    have h3 : ¬ 400 < n := by omega
    have h4 : ¬ 20 < (l.length : Int) := by omega
    clear h1
    by_cases g1 : x < 0
    · clear h2
      go_enter Try.func27, Try.ntmps27
      go_wp2
      go_ret
      exact ⟨ret_int HS.out.symm, hb0 _⟩
    by_cases g2 : 109572 < x
    · clear h2
      go_enter Try.func27, Try.ntmps27
      go_wp2
      go_ret
      exact ⟨ret_int HS.out.symm, hb0 _⟩
    by_cases g3 : y < 0
    · clear h2
      go_enter Try.func27, Try.ntmps27
      go_wp2
      go_ret
      exact ⟨ret_int HS.out.symm, hb0 _⟩
    have g4 : 400 < y := by omega
    clear h2
    go_enter Try.func27, Try.ntmps27
    go_wp2
    go_ret
    exact ⟨ret_int HS.out.symm, hb0 _⟩
  have HS := Lib.hid (show seasonL n x y l = if l.any badGround then 2 else 0 by unfold seasonL; rw [if_neg h1, if_neg h2])
  have h3 : ¬ 400 < n := by omega
  have h4 : ¬ 20 < (l.length : Int) := by omega
  have g1 : ¬ x < 0 := by omega
  have g2 : ¬ 109572 < x := by omega
  have g3 : ¬ y < 0 := by omega
  have g4 : ¬ 400 < y := by omega
  clear h1 h2
  go_enter Try.func27, Try.ntmps27
  go_wp2
  go_loopw [36] (IdxB w l.length (fun k => (l.take k).any badGround = false)) (fun i _ => l.length - (intOf i).toNat)
  case atStart => exact IdxB.start' (hb0 _) rfl
  case round =>
    obtain ⟨k, hk, rfl, ht, hb⟩ := hrel
    have HT := Lib.hid ht
    have hsz := hb.size
    clear ht
    by_cases hlt : k < l.length
    · obtain ⟨p, hp⟩ : ∃ p, l[k]? = some p := ⟨_, List.getElem?_eq_getElem hlt⟩
      obtain ⟨b, off, rfl, hbb, c0⟩ := rdIn hr hb hp
      have HP := Lib.hid hp
      clear hp
      by_cases h1 : p < 0
      · have hit : l.any badGround = true := any_hit (k := k) (x := p) HP.out (by unfold badGround; simp; omega)
        have HI := Lib.hid hit
        clear hit
        go_wp2
        go_ret
        exact ⟨ret_int (by rw [HS.out, HI.out]; rfl), hb⟩
      by_cases h2 : 20 ≤ p
      · have hit : l.any badGround = true := any_hit (k := k) (x := p) HP.out (by unfold badGround; simp; omega)
        have HI := Lib.hid hit
        clear hit
        go_wp2
        go_ret
        exact ⟨ret_int (by rw [HS.out, HI.out]; rfl), hb⟩
      have hm : (l.take (k + 1)).any badGround = false := any_miss (k := k) (x := p) HP.out HT.out (by unfold badGround; simp; omega)
      have HI := Lib.hid hm
      clear hm
      go_wp2
      go_roundw
      case rel => exact IdxB.next hb hlt HI.out
      case measure => simp [intOf]; omega
    · go_wp2
      go_ret
      exact ⟨ret_int (by rw [HS.out]; have := HT.out; rw [List.take_of_length_le (by omega)] at this; rw [this]; rfl), hb⟩


theorem homes_le (l : List Fx) (t : Int) : 0 ≤ homesL l t ∧ homesL l t ≤ l.length := by
  unfold homesL
  exact ⟨by omega, by have := List.length_filter_le (fun f : Fx => f.h == t) l; omega⟩
theorem homes_next {l : List Fx} {k : Nat} {x : Fx} {t : Int} (h : l[k]? = some x) : homesL (l.take (k + 1)) t = homesL (l.take k) t + if (x.h == t) = true then 1 else 0 := by
  unfold homesL
  rw [take_next h, List.filter_append]
  by_cases e : (x.h == t) = true <;> simp [e]


set_option maxHeartbeats 400000 in
theorem homes_f (A : Option Addr) (c : Nat) (l : List Fx) (t : Int) (w : World) (hl : l.length ≤ 9223372036854775807) (hr : Rd fxE 3 w w.heap.size A l) :
    Calls Try.prog 17 #[.slice A l.length c, .int .i64 t] w fun e w' => e = .returned (.int .i64 (homesL l t)) ∧ Below w.heap.size w w' := by
  go_enter Try.func17, Try.ntmps17
  go_wp2
  go_loopw [5, 10] (IdxF w l.length (fun k => homesL (l.take k) t)) (fun _ i _ => l.length - (intOf i).toNat)
  case atStart => exact ⟨0, Nat.zero_le _, rfl, rfl, Below.refl _ _⟩
  case round =>
    obtain ⟨k, hk, rfl, rfl, hb⟩ := hrel
    have hsz := hb.size
    have hbd := homes_le (l.take k) t
    have hlk : (l.take k).length ≤ k := List.length_take_le _ _
    by_cases hlt : k < l.length
    · obtain ⟨p, hp⟩ : ∃ p, l[k]? = some p := ⟨_, List.getElem?_eq_getElem hlt⟩
      obtain ⟨b, off, rfl, hbb, c0, c1, c2⟩ := rdFx hr hb hp
      have HN := Lib.hid (homes_next (t := t) hp)
      clear hp
      by_cases h1 : p.h = t
      · have e1 : (p.h == t) = true := by simpa using h1
        have HE := Lib.hid e1
        go_wp2
        go_roundw
        case rel => exact ⟨k + 1, hlt, by simp, val_int (by show _ = homesL _ _; rw [HN.out, if_pos HE.out]), hb.alloc hsz _⟩
        case measure => simp [intOf]; omega
      · have e1 : (p.h == t) = false := by simpa using h1
        have HE := Lib.hid e1
        go_wp2
        go_roundw
        case rel => exact ⟨k + 1, hlt, by simp, val_int (by show _ = homesL _ _; rw [HN.out, if_neg (by rw [HE.out]; simp)]; omega), hb.alloc hsz _⟩
        case measure => simp [intOf]; omega
    · go_wp2
      go_ret
      exact ⟨ret_int (by rw [List.take_of_length_le (by omega)]), hb⟩


set_option maxHeartbeats 400000 in
theorem homes_r (A : Option Addr) (c : Nat) (l : List Fx) (t : Int) (w : World) (hl : l.length ≤ 9223372036854775807) (hr : Rd fxE 3 w w.heap.size A l) :
    Calls Try.prog 18 #[.slice A l.length c, .int .i64 t] w fun e w' => e = .returned (.int .i64 (homesL l t)) ∧ Below w.heap.size w w' := by
  go_enter Try.func18, Try.ntmps18
  go_wp2
  go_loopw [5, 10] (IdxF w l.length (fun k => homesL (l.take k) t)) (fun _ i _ => l.length - (intOf i).toNat)
  case atStart => exact ⟨0, Nat.zero_le _, rfl, rfl, Below.refl _ _⟩
  case round =>
    obtain ⟨k, hk, rfl, rfl, hb⟩ := hrel
    have hsz := hb.size
    have hbd := homes_le (l.take k) t
    have hlk : (l.take k).length ≤ k := List.length_take_le _ _
    by_cases hlt : k < l.length
    · obtain ⟨p, hp⟩ : ∃ p, l[k]? = some p := ⟨_, List.getElem?_eq_getElem hlt⟩
      obtain ⟨b, off, rfl, hbb, c0, c1, c2⟩ := rdFx hr hb hp
      have HN := Lib.hid (homes_next (t := t) hp)
      clear hp
      by_cases h1 : p.h = t
      · have e1 : (p.h == t) = true := by simpa using h1
        have HE := Lib.hid e1
        go_wp2
        go_roundw
        case rel => exact ⟨k + 1, hlt, by simp, val_int (by show _ = homesL _ _; rw [HN.out, if_pos HE.out]), hb.alloc hsz _⟩
        case measure => simp [intOf]; omega
      · have e1 : (p.h == t) = false := by simpa using h1
        have HE := Lib.hid e1
        go_wp2
        go_roundw
        case rel => exact ⟨k + 1, hlt, by simp, val_int (by show _ = homesL _ _; rw [HN.out, if_neg (by rw [HE.out]; simp)]; omega), hb.alloc hsz _⟩
        case measure => simp [intOf]; omega
    · go_wp2
      go_ret
      exact ⟨ret_int (by rw [List.take_of_length_le (by omega)]), hb⟩


theorem rounds_f (n : Int) (d : Bool) (w : World) (h1 : 0 ≤ n) (h2 : n ≤ 1000) :
    Calls Try.prog 35 #[.int .i64 n, .bool d] w fun e w' => e = .returned (.int .i64 (roundsN n d)) ∧ w = w' := by
  cases d
  · go_enter Try.func35, Try.ntmps35
    go_wp2
    go_ret
    exact ⟨ret_int (by unfold roundsN; simp), rfl⟩
  · go_enter Try.func35, Try.ntmps35
    go_wp2
    go_ret
    exact ⟨ret_int (by unfold roundsN; simp; try omega), rfl⟩


theorem rounds_r (n : Int) (d : Bool) (w : World) (h1 : 0 ≤ n) (h2 : n ≤ 1000) :
    Calls Try.prog 33 #[.int .i64 n, .bool d] w fun e w' => e = .returned (.int .i64 (roundsN n d)) ∧ w = w' := by
  cases d
  · go_enter Try.func33, Try.ntmps33
    go_wp2
    go_ret
    exact ⟨ret_int (by unfold roundsN; simp), rfl⟩
  · go_enter Try.func33, Try.ntmps33
    go_wp2
    go_ret
    exact ⟨ret_int (by unfold roundsN; simp; try omega), rfl⟩


set_option maxHeartbeats 400000 in
theorem again_r (f g : Fx) (d : Bool) (w : World) :
    Calls Try.prog 34 #[f.val, g.val, .bool d] w fun e w' => e = .returned (.bool (againL f g d)) ∧ Below w.heap.size w w' := by
  obtain ⟨r, h, a⟩ := f
  obtain ⟨r', h', a'⟩ := g
  unfold Fx.val
  cases d
  all_goals
    go_enter Try.func34, Try.ntmps34
    go_wp2
    all_goals
      go_ret
      exact ⟨ret_bool (by simp only [againL]; simp [*] <;> omega), ((Below.refl _ _).alloc (Nat.le_refl _) _).alloc (by simp) _⟩

end Go.Proofs.Ythoocjcbpjdjhaa
