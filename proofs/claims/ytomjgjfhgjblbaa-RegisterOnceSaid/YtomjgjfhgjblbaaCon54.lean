/-
  Chapter 54: the law's closure, slices.ContainsFunc at []api.Transfer, slices.Contains at []string.
-/
import Derived.Test.YtomjgjfhgjblbaaSq54
namespace Go.Proofs.Ytomjgjfhgjblbaa
open Go.RowKit
set_option maxRecDepth 100000
set_option maxHeartbeats 1000000
theorem own_lit (x : Tr) (p : ByteArray) (g : Nat) (v : Bool) (w : World) (hg : w.cell? ⟨g, 0, none⟩ = some (.string p)) (hgl : g < w.heap.size) (hv : seq x.p p = v) :
    Calls Try.prog 9 #[.agg #[.string x.p, .string x.t, .int .i64 x.d], .pointer (some ⟨g, 0, none⟩)] w fun e w' => e = .returned (.bool v) ∧ Below w.heap.size w w' := by
  have es := seq_to x.p p
  rw [hv] at es
  clear hv
  go_enter Try.func9, Try.ntmps9
  go_wp2_with fail
  go_ret
  exact ⟨rfl, cur_new w _⟩
theorem known_none {l : List Tr} {p : ByteArray} (h : ∀ j x, j < l.length → l[j]? = some x → seq x.p p = false) : knownB l p = false := by
  unfold knownB
  rw [List.any_eq_false]
  intro x hx
  obtain ⟨j, hj, rfl⟩ := List.getElem_of_mem hx
  simp [h j _ hj (List.getElem?_eq_getElem hj)]
theorem known_some {l : List Tr} {p : ByteArray} {k : Nat} {x : Tr} (h : l[k]? = some x) (hx : seq x.p p = true) : knownB l p = true := by
  unfold knownB
  rw [List.any_eq_true]
  exact ⟨x, List.mem_of_getElem? h, hx⟩
def IdxT (w : World) (l : List Tr) (p : ByteArray) (i : Value) (wr : World) : Prop := ∃ k : Nat, k ≤ l.length ∧ i = .int .i64 k ∧ (∀ j x, j < k → l[j]? = some x → seq x.p p = false) ∧ Below w.heap.size w wr
theorem idx_t (A : Option Addr) (c : Nat) (l : List Tr) (p : ByteArray) (g : Nat) (v : Bool) (w : World) (hl : l.length ≤ 1000000) (hr : Rd trE 3 w w.heap.size A l) (hg : w.cell? ⟨g, 0, none⟩ = some (.string p)) (hgl : g < w.heap.size) (hv : knownB l p = v) :
    Calls Try.prog 16 #[.slice A l.length c, .func (.func 9) #[] #[.pointer (some ⟨g, 0, none⟩)]] w fun e w' => ∃ r, e = .returned (.int .i64 r) ∧ decide (0 ≤ r) = v ∧ Below w.heap.size w w' := by
  have HV := Lib.hid hv
  have HR := Lib.hid hr
  clear hr hv
  go_enter Try.func16, Try.ntmps16
  go_wp2
  go_loopw [8] (IdxT w l p) (fun i _ => l.length - (intOf i).toNat)
  case atStart => exact ⟨0, by simp, rfl, by intro j x h; omega, Below.refl _ _⟩
  case round =>
    obtain ⟨k, hk, rfl, hno, hB⟩ := hrel
    have HNO := Lib.hid hno
    have HB := Lib.hid hB
    clear hno hB
    by_cases hlt2 : k < l.length
    · obtain ⟨x, hx⟩ : ∃ x, l[k]? = some x := ⟨_, List.getElem?_eq_getElem hlt2⟩
      obtain ⟨b, off, rfl, hbb, hcl⟩ := HR.out.at_ HB.out hx
      obtain ⟨c0, c1, c2⟩ := tr_cells hcl
      have HX := Lib.hid hx
      have hgw : wr.cell? ⟨g, 0, none⟩ = some (.string p) := (HB.out.cell (p := ⟨g, 0, none⟩) hgl).trans hg
      have hgl2 : g < wr.heap.size := by have := HB.out.size; omega
      clear hcl hx
      cases hi : seq x.p p
      · have HI := Lib.hid hi
        clear hi
        go_wp2_with (go_at_call 9; refine (own_lit x p g _ _ hgw hgl2 HI.out).mono ?_; rintro e w1 ⟨rfl, hb1⟩)
        go_roundw
        case rel =>
          refine ⟨k + 1, hlt2, by simp, fun j y hj hy => ?_, cur_step1 HB.out hb1⟩
          by_cases e : j = k
          · subst e
            rw [HX.out] at hy
            injection hy with hy
            rw [← hy]; exact HI.out
          · exact HNO.out j y (by omega) hy
        case measure => simp [intOf]; omega
      · have HI := Lib.hid hi
        clear hi
        go_wp2_with (go_at_call 9; refine (own_lit x p g _ _ hgw hgl2 HI.out).mono ?_; rintro e w1 ⟨rfl, hb1⟩)
        go_ret
        exact ⟨_, rfl, by rw [← HV.out, known_some HX.out HI.out]; simp, cur_step1 HB.out hb1⟩
    · have hke : k = l.length := by omega
      go_wp2
      go_ret
      exact ⟨_, rfl, by rw [← HV.out, known_none (by rw [← hke]; exact HNO.out)]; simp, HB.out⟩
theorem cont_t (A : Option Addr) (c : Nat) (l : List Tr) (p : ByteArray) (g : Nat) (v : Bool) (w : World) (hl : l.length ≤ 1000000) (hr : Rd trE 3 w w.heap.size A l) (hg : w.cell? ⟨g, 0, none⟩ = some (.string p)) (hgl : g < w.heap.size) (hv : knownB l p = v) :
    Calls Try.prog 8 #[.slice A l.length c, .func (.func 9) #[] #[.pointer (some ⟨g, 0, none⟩)]] w fun e w' => e = .returned (.bool v) ∧ Below w.heap.size w w' := by
  have HV := Lib.hid hv
  have HR := Lib.hid hr
  clear hr hv
  go_enter Try.func8, Try.ntmps8
  go_wp2_with (go_at_call 16; refine (idx_t A c l p g v w hl HR.out hg hgl HV.out).mono ?_; rintro e w1 ⟨r, rfl, hdec, hb1⟩; have HD := Lib.hid hdec; clear hdec)
  go_ret
  exact ⟨ret_bool HD.out, hb1⟩
def IdxB (w : World) (l : List Bs) (p : ByteArray) (i : Value) (wr : World) : Prop := ∃ k : Nat, k ≤ l.length ∧ i = .int .i64 k ∧ (∀ j x, j < k → l[j]? = some x → x ≠ p.data.toList) ∧ Below w.heap.size w wr
theorem bs_cell {w : World} {b off k : Nat} {y : Bs} (h : ∀ j u, (strE y)[j]? = some u → w.cell? ⟨b, off + k * 1 + j, none⟩ = some u) : w.cell? ⟨b, off + k, none⟩ = some (.string ⟨y.toArray⟩) := by simpa using h 0 _ rfl
theorem idx_b (A : Option Addr) (c : Nat) (l : List Bs) (p : ByteArray) (v : Bool) (w : World) (hl : l.length ≤ 1000000) (hr : Rd strE 1 w w.heap.size A l) (hv : decide (p.data.toList ∈ l) = v) :
    Calls Try.prog 13 #[.slice A l.length c, .string p] w fun e w' => ∃ r, e = .returned (.int .i64 r) ∧ decide (0 ≤ r) = v ∧ Below w.heap.size w w' := by
  have HV := Lib.hid hv
  have HR := Lib.hid hr
  clear hr hv
  go_enter Try.func13, Try.ntmps13
  go_wp2
  go_loopw [8] (IdxB w l p) (fun i _ => l.length - (intOf i).toNat)
  case atStart => exact ⟨0, by simp, rfl, by intro j x h; omega, Below.refl _ _⟩
  case round =>
    obtain ⟨k, hk, rfl, hno, hB⟩ := hrel
    have HNO := Lib.hid hno
    have HB := Lib.hid hB
    clear hno hB
    by_cases hlt2 : k < l.length
    · obtain ⟨x, hx⟩ : ∃ x, l[k]? = some x := ⟨_, List.getElem?_eq_getElem hlt2⟩
      obtain ⟨b, off, rfl, hbb, hcl⟩ := HR.out.at_ HB.out hx
      have c0 := bs_cell hcl
      obtain ⟨y, hy⟩ : ∃ y : ByteArray, ⟨x.toArray⟩ = y := ⟨_, rfl⟩
      rw [hy] at c0
      have hyx : x = y.data.toList := by rw [← hy]
      have HX := Lib.hid hx
      have es := seq_to p y
      have es2 := seq_to y p
      clear hcl hx hy
      cases hi : seq y p
      · have HI := Lib.hid (show x ≠ p.data.toList from fun e => by rw [seq_eq.2 (show y = p from seq_eq.1 (by unfold seq; rw [← hyx, e]; simp))] at hi; cases hi)
        have hi2 : seq p y = false := by
          cases h : seq p y
          · rfl
          · rw [seq_eq.1 h, seq_refl] at hi; cases hi
        rw [hi] at es2
        rw [hi2] at es
        clear hi hi2
        go_wp2_with fail
        go_roundw
        case rel =>
          refine ⟨k + 1, hlt2, by simp, fun j z hj hz => ?_, HB.out⟩
          by_cases e : j = k
          · subst e
            rw [HX.out] at hz
            injection hz with hz
            rw [← hz]; exact HI.out
          · exact HNO.out j z (by omega) hz
        case measure => simp [intOf]; omega
      · obtain rfl := seq_eq.1 hi
        have HI := Lib.hid (show decide (y.data.toList ∈ l) = true from decide_eq_true (by rw [← hyx]; exact List.mem_of_getElem? HX.out))
        rw [hi] at es
        clear hi
        go_wp2_with fail
        go_ret
        exact ⟨_, rfl, by rw [← HV.out, HI.out]; simp, HB.out⟩
    · have hke : k = l.length := by omega
      go_wp2
      go_ret
      refine ⟨_, rfl, ?_, HB.out⟩
      rw [← HV.out, decide_eq_false (p := p.data.toList ∈ l) fun hm => ?_]
      · simp
      · obtain ⟨j, hj, he⟩ := List.getElem_of_mem hm
        exact HNO.out j _ (by omega) (List.getElem?_eq_getElem hj) he
theorem cont_b (A : Option Addr) (c : Nat) (l : List Bs) (p : ByteArray) (v : Bool) (w : World) (hl : l.length ≤ 1000000) (hr : Rd strE 1 w w.heap.size A l) (hv : decide (p.data.toList ∈ l) = v) :
    Calls Try.prog 6 #[.slice A l.length c, .string p] w fun e w' => e = .returned (.bool v) ∧ Below w.heap.size w w' := by
  have HV := Lib.hid hv
  have HR := Lib.hid hr
  clear hr hv
  go_enter Try.func6, Try.ntmps6
  go_wp2_with (go_at_call 13; refine (idx_b A c l p v w hl HR.out HV.out).mono ?_; rintro e w1 ⟨r, rfl, hdec, hb1⟩; have HD := Lib.hid hdec; clear hdec)
  go_ret
  exact ⟨ret_bool HD.out, hb1⟩
end Go.Proofs.Ytomjgjfhgjblbaa
