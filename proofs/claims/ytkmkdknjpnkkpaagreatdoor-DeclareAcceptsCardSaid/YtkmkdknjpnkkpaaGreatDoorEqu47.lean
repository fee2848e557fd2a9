/-
  Chapter 47: equal of the law; slices.Equal and slices.EqualFunc at rows of weights.
-/
import Derived.Test.YtkmkdknjpnkkpaaGreatDoorSpec47
import Derived.Test.YtkmkdknjpnkkpaaGreatDoorLeaf47
set_option linter.unusedSimpArgs false
set_option linter.unusedVariables false
namespace Go.Proofs.YtkmkdknjpnkkpaaGreatDoor
open Go.RowKit
set_option maxRecDepth 100000
set_option maxHeartbeats 1000000
theorem Rd2.at_ {w w' : World} {B : Nat} {A : Option Addr} {l : List (List Int)} {k : Nat} {x : List Int} (h : Rd2 w B A l) (hb : Below B w w') (hx : l[k]? = some x) : ∃ b off, A = some ⟨b, off, none⟩ ∧ b < B ∧ ∃ A' c', w'.cell? ⟨b, off + k, none⟩ = some (.slice A' x.length c') ∧ Rd inE 1 w' B A' x := h.below hb k x hx
def RngI (n : Nat) (w : World) (i : Value) (wr : World) : Prop := ∃ k : Nat, k ≤ n ∧ i = .int .i64 k ∧ Below w.heap.size w wr
theorem equal_t (A B : Option Addr) (ac bc : Nat) (l : List (List Int)) (w : World) (hm : l.length ≤ 1000000) (hr : ∀ x ∈ l, x.length ≤ 1000000) (hra : Rd2 w w.heap.size A l) (hrb : Rd2 w w.heap.size B l) :
    Calls Tryz.prog 21 #[.slice A l.length ac, .slice B l.length bc] w fun e w' => e = .returned (.bool true) ∧ Below w.heap.size w w' := by
  have HA := Lib.hid hra
  have HB := Lib.hid hrb
  have HR := Lib.hid hr
  clear hra hrb hr
  go_enter Tryz.func21, Tryz.ntmps21
  go_wp2_with fail
  go_loopw [14] (RngI l.length w) (fun i _ => l.length - (intOf i).toNat)
  case atStart => exact ⟨0, by omega, rfl, Below.refl _ _⟩
  case round =>
    obtain ⟨k, hk, rfl, hb⟩ := hrel
    have HBB := Lib.hid hb
    clear hb
    by_cases hlt : k < l.length
    · obtain ⟨x, hx⟩ : ∃ x, l[k]? = some x := ⟨_, List.getElem?_eq_getElem hlt⟩
      have hxl := HR.out x (List.mem_of_getElem? hx)
      obtain ⟨b, off, rfl, hbb, A1, c1, hc1, hr1⟩ := HA.out.at_ HBB.out hx
      obtain ⟨b', off', rfl, hbb', A2, c2, hc2, hr2⟩ := HB.out.at_ HBB.out hx
      have HR1 := Lib.hid (hr1.more HBB.out.size)
      have HR2 := Lib.hid (hr2.more HBB.out.size)
      have HC1 := Lib.hid hc1
      have HC2 := Lib.hid hc2
      have l1 := Nat.lt_of_lt_of_le hbb HBB.out.size
      have l2 := Nat.lt_of_lt_of_le hbb' HBB.out.size
      clear hx hr1 hr2
      go_wp2_with fail
      go_quiet (fail)
      go_wp2
      go_loopw [33] (RngI x.length wr) (fun i _ => x.length - (intOf i).toNat)
      case atStart => exact ⟨0, by omega, rfl, cur_drew _ _⟩
      case round =>
        obtain ⟨j, hj, rfl, hb2⟩ := hrel
        have HB2 := Lib.hid hb2
        have hc1 := (HB2.out.cell (p := ⟨b, off + k, none⟩) l1).trans HC1.out
        have hc2 := (HB2.out.cell (p := ⟨b', off' + k, none⟩) l2).trans HC2.out
        clear hb2
        by_cases hlj : j < x.length
        · obtain ⟨y, hy⟩ : ∃ y, x[j]? = some y := ⟨_, List.getElem?_eq_getElem hlj⟩
          obtain ⟨b3, off3, rfl, hb3, h3⟩ := HR1.out.at_ HB2.out hy
          obtain ⟨b4, off4, rfl, hb4, h4⟩ := HR2.out.at_ HB2.out hy
          have c3 := in_cell h3
          have c4 := in_cell h4
          clear hy h3 h4
          go_wp2_with fail
          go_quiet (fail)
          go_wp2
          exact ⟨⟨j + 1, hlj, by simp, cur_step1 HB2.out (cur_drew _ _)⟩, by simp [intOf]; omega⟩
        · have hje : j = x.length := by omega
          subst hje
          go_wp2_with fail
          go_roundw
          case rel => exact ⟨k + 1, hlt, by simp, cur_step1 HBB.out HB2.out⟩
          case measure => simp [intOf]; omega
    · have hke : k = l.length := by omega
      subst hke
      go_wp2_with fail
      go_ret
      exact ⟨rfl, HBB.out⟩

/-! slices.Equal. -/
def SeqI (a b : List Int) (w : World) (i : Value) (wr : World) : Prop := ∃ k : Nat, k ≤ a.length ∧ i = .int .i64 k ∧ (∀ j : Nat, j < k → a[j]? = b[j]?) ∧ Below w.heap.size w wr
theorem list_ne {a b : List Int} {k : Nat} {x y : Int} (hx : a[k]? = some x) (hy : b[k]? = some y) (h : x ≠ y) : (a == b) = false := by
  rw [beq_eq_false_iff_ne]
  rintro rfl
  rw [hx] at hy
  injection hy with hy
  exact h hy
theorem seq_f (A B : Option Addr) (ac bc : Nat) (a b : List Int) (w : World) (hm : a.length ≤ 1000000) (hra : Rd inE 1 w w.heap.size A a) (hrb : Rd inE 1 w w.heap.size B b) :
    Calls Tryz.prog 39 #[.slice A a.length ac, .slice B b.length bc] w fun e w' => e = .returned (.bool (a == b)) ∧ Below w.heap.size w w' := by
  by_cases hlen : a.length = b.length
  · have HA := Lib.hid hra
    have HB := Lib.hid hrb
    have HL := Lib.hid hlen
    have hl1 : ((a.length : Int) != (b.length : Int)) = false := by simp [hlen]
    clear hra hrb hlen
    go_enter Tryz.func39, Tryz.ntmps39
    go_wp2_with fail
    go_loopw [13] (SeqI a b w) (fun i _ => a.length - (intOf i).toNat)
    case atStart => exact ⟨0, by omega, rfl, fun j hj => by omega, Below.refl _ _⟩
    case round =>
      obtain ⟨k, hk, rfl, hq, hb⟩ := hrel
      have HBB := Lib.hid hb
      have HQ := Lib.hid hq
      clear hb hq
      by_cases hlt : k < a.length
      · obtain ⟨x, hx⟩ : ∃ x, a[k]? = some x := ⟨_, List.getElem?_eq_getElem hlt⟩
        obtain ⟨y, hy⟩ : ∃ y, b[k]? = some y := ⟨_, List.getElem?_eq_getElem (by have := HL.out; omega)⟩
        have hlt2 : k < b.length := by have := HL.out; omega
        obtain ⟨b1, off1, rfl, hbb, hc⟩ := HA.out.at_ HBB.out hx
        obtain ⟨b2, off2, rfl, hbb', hc'⟩ := HB.out.at_ HBB.out hy
        have c0 := in_cell hc
        have c1 := in_cell hc'
        clear hc hc'
        by_cases hxy : x = y
        · subst hxy
          have HN := Lib.hid (show ∀ j : Nat, j < k + 1 → a[j]? = b[j]? from fun j hj => by
            rcases Nat.lt_or_ge j k with h | h
            · exact HQ.out j h
            · obtain rfl : j = k := by omega
              rw [hx, hy])
          clear hx hy
          go_wp2_with fail
          go_quiet (fail)
          go_wp2
          exact ⟨⟨k + 1, hlt, by simp, HN.out, cur_step1 HBB.out (cur_drew _ _)⟩, by simp [intOf]; omega⟩
        · have e1 : (x != y) = true := by simpa using hxy
          have HV := Lib.hid (list_ne hx hy hxy)
          clear hx hy hxy
          go_wp2_with fail
          go_quiet (fail)
          go_wp2
          go_ret
          exact ⟨ret_bool HV.out.symm, cur_step1 HBB.out (cur_drew _ _)⟩
      · have hke : k = a.length := by omega
        have HV := Lib.hid (show true = (a == b) by
          symm
          rw [beq_iff_eq]
          apply List.ext_getElem?
          intro j
          rcases Nat.lt_or_ge j k with h | h
          · exact HQ.out j h
          · rw [List.getElem?_eq_none (by omega), List.getElem?_eq_none (by have := HL.out; omega)])
        subst hke
        go_wp2_with fail
        go_ret
        exact ⟨ret_bool HV.out, HBB.out⟩
  · have hl1 : ((a.length : Int) != (b.length : Int)) = true := by simp; omega
    have HV := Lib.hid (show false = (a == b) by
      symm
      rw [beq_eq_false_iff_ne]
      rintro rfl
      exact hlen rfl)
    clear hlen
    go_enter Tryz.func39, Tryz.ntmps39
    go_wp2_with fail
    go_ret
    exact ⟨ret_bool HV.out, Below.refl _ _⟩
theorem fn1_f (A B : Option Addr) (ac bc : Nat) (a b : List Int) (w : World) :
    Calls Tryz.prog 37 #[.slice A a.length ac, .slice B b.length bc] w fun e w' => e = .returned (.bool (a.length == b.length)) ∧ Below w.heap.size w w' := by
  by_cases hlen : a.length = b.length
  · have e1 : ((a.length : Int) == (b.length : Int)) = true := by simp [hlen]
    have HV := Lib.hid (show true = (a.length == b.length) by simp [hlen])
    clear hlen
    go_enter Tryz.func37, Tryz.ntmps37
    go_wp2_with fail
    go_ret
    exact ⟨ret_bool HV.out, Below.refl _ _⟩
  · have e1 : ((a.length : Int) == (b.length : Int)) = false := by simp; omega
    have HV := Lib.hid (show false = (a.length == b.length) by simp [hlen])
    clear hlen
    go_enter Tryz.func37, Tryz.ntmps37
    go_wp2_with fail
    go_ret
    exact ⟨ret_bool HV.out, Below.refl _ _⟩
theorem fn2_f (A B : Option Addr) (ac bc : Nat) (a b : List Int) (w : World) (hm : a.length ≤ 1000000) (hra : Rd inE 1 w w.heap.size A a) (hrb : Rd inE 1 w w.heap.size B b) :
    Calls Tryz.prog 38 #[.slice A a.length ac, .slice B b.length bc] w fun e w' => e = .returned (.bool (a == b)) ∧ Below w.heap.size w w' := by
  go_enter Tryz.func38, Tryz.ntmps38
  go_wp2_with fail
  refine (seq_f A B ac bc a b _ hm hra hrb).mono ?_
  rintro e w1 ⟨rfl, hb1⟩
  have HB := Lib.hid hb1
  clear hb1
  go_wp2_with fail
  go_ret
  exact ⟨rfl, HB.out⟩
end Go.Proofs.YtkmkdknjpnkkpaaGreatDoor
