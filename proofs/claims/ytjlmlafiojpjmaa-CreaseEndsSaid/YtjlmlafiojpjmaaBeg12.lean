/-
  Chapter 12: begun, known, Vacant.
-/
import Derived.Test.YtjlmlafiojpjmaaInn12
namespace Go.Proofs.Ytjlmlafiojpjmaa
open Go.RowKit

def stC (bs : List Int) : List Value := bs.map (Value.int .u8)
theorem stC_len (bs : List Int) : (stC bs).length = bs.length := by simp [stC]
theorem stC_at {bs : List Int} {k : Nat} {x : Int} (h : bs[k]? = some x) : (stC bs)[k]? = some (.int .u8 x) := by simp [stC, h]
theorem stC_one (bs : List Int) : ∀ u ∈ stC bs, u.oneCell' = true := by
  intro u hu
  obtain ⟨x, _, rfl⟩ := List.mem_map.1 hu
  rfl
def begunL (bs : List Int) : Bool := bs.any fun s => s != 0

theorem ret_bool {a b : Bool} (h : a = b) : Ending.returned (.bool a) = .returned (.bool b) := by rw [h]
theorem ret_int {k : IntKind} {a b : Int} (h : a = b) : Ending.returned (.int k a) = .returned (.int k b) := by rw [h]
theorem beg_lit (s : Int) (w : World) : Calls Try.prog 34 #[.int .u8 s] w fun e w' => e = .returned (.bool (s != 0)) ∧ w = w' := by
  go_enter Try.func34, Try.ntmps34
  go_wp2
  go_ret
  exact ⟨by simp, rfl⟩
theorem beg_v (s : Int) (v : Bool) (w : World) (hv : (s != 0) = v) : Calls Try.prog 34 #[.int .u8 s] w fun e w' => e = .returned (.bool v) ∧ w = w' := by
  subst hv; exact beg_lit s w

def idxG : Nat → List Int → Int
  | _, [] => -1
  | k, x :: xs => if x != 0 then (k : Int) else idxG (k + 1) xs
theorem idxG_any (l : List Int) : ∀ k, decide (0 ≤ idxG k l) = l.any fun s => s != 0 := by
  induction l with
  | nil => intro k; rfl
  | cons x xs ih =>
    intro k
    unfold idxG
    by_cases h : (x != 0) = true
    · rw [if_pos h]; simp [h]
    · rw [if_neg h, ih]; simp at h; simp [h]
theorem idxG_at {l : List Int} {k : Nat} {x : Int} (h : l[k]? = some x) : idxG k (l.drop k) = if x != 0 then (k : Int) else idxG (k + 1) (l.drop (k + 1)) := by
  obtain ⟨hk, rfl⟩ := List.getElem?_eq_some_iff.1 h
  rw [List.drop_eq_getElem_cons hk]
  rfl
theorem idxG_end {l : List Int} {k : Nat} (h : l.length ≤ k) : idxG k (l.drop k) = -1 := by rw [List.drop_of_length_le h]; rfl
def IdxR (w : World) (bs : List Int) (i : Value) (wr : World) : Prop := ∃ k : Nat, k ≤ bs.length ∧ i = .int .i64 k ∧ idxG k (bs.drop k) = idxG 0 bs ∧ wr = w
set_option maxRecDepth 100000 in
set_option maxHeartbeats 1000000 in
theorem idx_st (v : Value) (bs : List Int) (r : Int) (w : World) (hl : bs.length ≤ 1000000) (hr : Lst w v (stC bs)) (hi : idxG 0 bs = r) :
    Calls Try.prog 47 #[v, .func (.func 34) #[] #[]] w fun e w' => e = .returned (.int .i64 r) ∧ w = w' := by
  have HI := Lib.hid hi
  clear hi
  rcases hr with ⟨rfl, hx⟩ | ⟨b, off, c, rfl, hc, hlt, hx⟩
  · have hbs : bs = [] := by simpa [stC] using hx
    subst hbs
    have HE := Lib.hid (show r = -1 from HI.out.symm)
    clear hx hl
    go_enter Try.func47, Try.ntmps47
    go_wp2
    go_loopw [8] (IdxR w []) (fun _ _ => 0)
    case atStart => exact ⟨0, by simp, rfl, rfl, rfl⟩
    case round =>
      obtain ⟨k, hk, rfl, _, rfl⟩ := hrel
      obtain rfl : k = 0 := by simpa using hk
      go_wp2
      go_ret
      exact ⟨ret_int HE.out.symm, rfl⟩
  · rw [stC_len] at hc ⊢
    have HX := Lib.hid hx
    clear hx
    go_enter Try.func47, Try.ntmps47
    go_wp2
    go_loopw [8] (IdxR w bs) (fun i _ => bs.length - (intOf i).toNat)
    case atStart => exact ⟨0, by simp, rfl, rfl, rfl⟩
    case round =>
      obtain ⟨k, hk, rfl, hq, rfl⟩ := hrel
      have HQ := Lib.hid hq
      clear hq
      by_cases hlt2 : k < bs.length
      · obtain ⟨x, hx⟩ : ∃ x, bs[k]? = some x := ⟨_, List.getElem?_eq_getElem hlt2⟩
        have hcell := HX.out k _ (stC_at hx)
        have HA := Lib.hid (idxG_at hx)
        clear hx
        by_cases h0 : (x != 0) = true
        · have HE := Lib.hid (show r = k by rw [← HI.out, ← HQ.out, HA.out, if_pos h0])
          have H0 := Lib.hid h0
          clear h0
          go_wp2_with (go_at_call 34; refine (beg_v _ _ _ H0.out).mono ?_; rintro e w1 ⟨rfl, rfl⟩)
          go_ret
          exact ⟨ret_int HE.out.symm, rfl⟩
        · have HE := Lib.hid (show idxG (k + 1) (bs.drop (k + 1)) = idxG 0 bs by rw [← HQ.out, HA.out, if_neg h0])
          have h0 : (x != 0) = false := by simpa using h0
          have H0 := Lib.hid h0
          clear h0
          go_wp2_with (go_at_call 34; refine (beg_v _ _ _ H0.out).mono ?_; rintro e w1 ⟨rfl, rfl⟩)
          go_roundw
          case rel => exact ⟨k + 1, hlt2, by simp, HE.out, rfl⟩
          case measure => simp [intOf]; omega
      · have HE := Lib.hid (show r = -1 by rw [← HI.out, ← HQ.out, idxG_end (by omega)])
        go_wp2
        go_ret
        exact ⟨ret_int HE.out.symm, rfl⟩
theorem cont_st (v : Value) (bs : List Int) (q : Bool) (w : World) (hl : bs.length ≤ 1000000) (hr : Lst w v (stC bs)) (hq : begunL bs = q) :
    Calls Try.prog 33 #[v, .func (.func 34) #[] #[]] w fun e w' => e = .returned (.bool q) ∧ w = w' := by
  obtain ⟨r, hi⟩ : ∃ r, idxG 0 bs = r := ⟨_, rfl⟩
  have hdec : decide (0 ≤ r) = q := by rw [← hi, ← hq, idxG_any]; rfl
  have HI := Lib.hid hi
  have HD := Lib.hid hdec
  clear hi hdec
  go_enter Try.func33, Try.ntmps33
  go_wp2_with (go_at_call 47; refine (idx_st v bs r w hl hr HI.out).mono ?_; rintro e w1 ⟨rfl, rfl⟩)
  go_ret
  exact ⟨ret_bool HD.out, rfl⟩
set_option maxRecDepth 100000 in
set_option maxHeartbeats 1000000 in
theorem begun_f (r : Rst) (wk st ot : Int) (B : Value) (bs : List Int) (q : Bool) (w : World) (hl : bs.length ≤ 1000000) (hr : Lst w B (stC bs)) (hq : begunL bs = q) :
    Calls Try.prog 22 #[innV r wk st ot B] w fun e w' => e = .returned (.bool q) ∧ Below w.heap.size w w' := by
  have i1 : (innL r wk st ot B)[14]? = some B := rfl
  have i2 : (innL r wk st ot B).toArray[14]? = some B := rfl
  go_enter Try.func22, Try.ntmps22
  go_wp2_with (go_at_call 33; refine (cont_st B bs q _ hl (hr.to (cur_new w _)) hq).mono ?_; rintro e w1 ⟨rfl, rfl⟩)
  go_ret
  exact ⟨rfl, cur_new w _⟩
theorem known_f (r : Rst) (wk st ot p : Int) (A : Option Addr) (n c : Nat) (q : Bool) (w : World) (hn : n ≤ 1000000) (hq : (decide (1 ≤ p) && decide (p ≤ n)) = q) :
    Calls Try.prog 23 #[innV r wk st ot (.slice A n c), .int .i64 p] w fun e w' => e = .returned (.bool q) ∧ Below w.heap.size w w' := by
  have i1 : (innL r wk st ot (.slice A n c))[14]? = some (.slice A n c) := rfl
  have HQ := Lib.hid hq
  clear hq
  go_enter Try.func23, Try.ntmps23
  go_wp2
  all_goals
    go_ret
    exact ⟨ret_bool (by rw [← HQ.out]; simp <;> omega), cur_new w _⟩
end Go.Proofs.Ytjlmlafiojpjmaa
