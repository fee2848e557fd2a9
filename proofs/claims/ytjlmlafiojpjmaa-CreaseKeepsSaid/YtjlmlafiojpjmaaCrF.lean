/-
  Chapter 12: known, begun, Vacant, dismiss, with any lists.
-/
import Derived.Test.YtjlmlafiojpjmaaCrO
set_option linter.unusedSimpArgs false
set_option linter.unusedVariables false
namespace Go.Proofs.Ytjlmlafiojpjmaa
open Go.RowKit

def begunL (bs : List Int) : Bool := bs.any fun s => s != 0
def knownS (I : Inn) (p : Int) : Bool := decide (1 ≤ p) && decide (p ≤ I.b.length)
def vacantS (I : Inn) : Bool := begunL I.b && (I.st == 0 || I.ot == 0)
def dismissS (I : Inn) (p : Int) : Inn := if knownS I p then { I with b := I.b.set (p.toNat - 1) 2, wk := wrap64 (I.wk + 1) } else { I with wk := wrap64 (I.wk + 1) }
theorem ret_bool {a b : Bool} (h : a = b) : Ending.returned (.bool a) = .returned (.bool b) := by rw [h]
theorem ret_int {k : IntKind} {a b : Int} (h : a = b) : Ending.returned (.int k a) = .returned (.int k b) := by rw [h]
theorem beg_lit (s : Int) (w : World) : Calls Try.prog 34 #[.int .u8 s] w fun e w' => e = .returned (.bool (s != 0)) ∧ w = w' := by
  go_enter Try.func34, Try.ntmps34
  go_wp2
  go_ret
  exact ⟨by simp, rfl⟩
theorem beg_v (s : Int) (v : Bool) (w : World) (hv : (s != 0) = v) : Calls Try.prog 34 #[.int .u8 s] w fun e w' => e = .returned (.bool v) ∧ w = w' := by
  subst hv; exact beg_lit s w

def idxG : Nat → List Int → Int
  | _, [] => -1
  | k, x :: xs => if x != 0 then (k : Int) else idxG (k + 1) xs
theorem idxG_any (l : List Int) : ∀ k, decide (0 ≤ idxG k l) = l.any fun s => s != 0 := by
  induction l with
  | nil => intro k; rfl
  | cons x xs ih =>
    intro k
    unfold idxG
    by_cases h : (x != 0) = true
    · rw [if_pos h]; simp [h]
    · rw [if_neg h, ih]; simp at h; simp [h]
theorem idxG_at {l : List Int} {k : Nat} {x : Int} (h : l[k]? = some x) : idxG k (l.drop k) = if x != 0 then (k : Int) else idxG (k + 1) (l.drop (k + 1)) := by
  obtain ⟨hk, rfl⟩ := List.getElem?_eq_some_iff.1 h
  rw [List.drop_eq_getElem_cons hk]
  rfl
theorem idxG_end {l : List Int} {k : Nat} (h : l.length ≤ k) : idxG k (l.drop k) = -1 := by rw [List.drop_of_length_le h]; rfl
def IdxR (w : World) (bs : List Int) (i : Value) (wr : World) : Prop := ∃ k : Nat, k ≤ bs.length ∧ i = .int .i64 k ∧ idxG k (bs.drop k) = idxG 0 bs ∧ wr = w
set_option maxRecDepth 100000 in
set_option maxHeartbeats 1000000 in
theorem idx_st (v : Value) (bs : List Int) (r : Int) (w : World) (hl : bs.length ≤ 1000000) (hr : Lst w v (stC bs)) (hi : idxG 0 bs = r) :
    Calls Try.prog 47 #[v, .func (.func 34) #[] #[]] w fun e w' => e = .returned (.int .i64 r) ∧ w = w' := by
  have HI := Lib.hid hi
  clear hi
  rcases hr with ⟨rfl, hx⟩ | ⟨b, off, c, rfl, hc, hlt, hx⟩ | ⟨a, c, rfl, hx⟩
  · have hbs : bs = [] := by simpa [stC] using hx
    subst hbs
    have HE := Lib.hid (show r = -1 from HI.out.symm)
    clear hx hl
    go_enter Try.func47, Try.ntmps47
    go_wp2
    go_loopw [8] (IdxR w []) (fun _ _ => 0)
    case atStart => exact ⟨0, by simp, rfl, rfl, rfl⟩
    case round =>
      obtain ⟨k, hk, rfl, _, rfl⟩ := hrel
      obtain rfl : k = 0 := by simpa using hk
      go_wp2
      go_ret
      exact ⟨ret_int HE.out.symm, rfl⟩
  · rw [stC_len] at hc ⊢
    have HX := Lib.hid hx
    clear hx
    go_enter Try.func47, Try.ntmps47
    go_wp2
    go_loopw [8] (IdxR w bs) (fun i _ => bs.length - (intOf i).toNat)
    case atStart => exact ⟨0, by simp, rfl, rfl, rfl⟩
    case round =>
      obtain ⟨k, hk, rfl, hq, rfl⟩ := hrel
      have HQ := Lib.hid hq
      clear hq
      by_cases hlt2 : k < bs.length
      · obtain ⟨x, hx⟩ : ∃ x, bs[k]? = some x := ⟨_, List.getElem?_eq_getElem hlt2⟩
        have hcell := HX.out k _ (stC_at hx)
        have HA := Lib.hid (idxG_at hx)
        clear hx
        by_cases h0 : (x != 0) = true
        · have HE := Lib.hid (show r = k by rw [← HI.out, ← HQ.out, HA.out, if_pos h0])
          have H0 := Lib.hid h0
          clear h0
          go_wp2_with (go_at_call 34; refine (beg_v _ _ _ H0.out).mono ?_; rintro e w1 ⟨rfl, rfl⟩)
          go_ret
          exact ⟨ret_int HE.out.symm, rfl⟩
        · have HE := Lib.hid (show idxG (k + 1) (bs.drop (k + 1)) = idxG 0 bs by rw [← HQ.out, HA.out, if_neg h0])
          have h0 : (x != 0) = false := by simpa using h0
          have H0 := Lib.hid h0
          clear h0
          go_wp2_with (go_at_call 34; refine (beg_v _ _ _ H0.out).mono ?_; rintro e w1 ⟨rfl, rfl⟩)
          go_roundw
          case rel => exact ⟨k + 1, hlt2, by simp, HE.out, rfl⟩
          case measure => simp [intOf]; omega
      · have HE := Lib.hid (show r = -1 by rw [← HI.out, ← HQ.out, idxG_end (by omega)])
        go_wp2
        go_ret
        exact ⟨ret_int HE.out.symm, rfl⟩
  · have hbs : bs = [] := by simpa [stC] using hx
    subst hbs
    have HE := Lib.hid (show r = -1 from HI.out.symm)
    clear hx hl
    go_enter Try.func47, Try.ntmps47
    go_wp2
    go_loopw [8] (IdxR w []) (fun _ _ => 0)
    case atStart => exact ⟨0, by simp, rfl, rfl, rfl⟩
    case round =>
      obtain ⟨k, hk, rfl, _, rfl⟩ := hrel
      obtain rfl : k = 0 := by simpa using hk
      go_wp2
      go_ret
      exact ⟨ret_int HE.out.symm, rfl⟩
theorem cont_st (v : Value) (bs : List Int) (q : Bool) (w : World) (hl : bs.length ≤ 1000000) (hr : Lst w v (stC bs)) (hq : begunL bs = q) :
    Calls Try.prog 33 #[v, .func (.func 34) #[] #[]] w fun e w' => e = .returned (.bool q) ∧ w = w' := by
  obtain ⟨r, hi⟩ : ∃ r, idxG 0 bs = r := ⟨_, rfl⟩
  have hdec : decide (0 ≤ r) = q := by rw [← hi, ← hq, idxG_any]; rfl
  have HI := Lib.hid hi
  have HD := Lib.hid hdec
  clear hi hdec
  go_enter Try.func33, Try.ntmps33
  go_wp2_with (go_at_call 47; refine (idx_st v bs r w hl hr HI.out).mono ?_; rintro e w1 ⟨rfl, rfl⟩)
  go_ret
  exact ⟨ret_bool HD.out, rfl⟩
set_option maxRecDepth 100000 in
set_option maxHeartbeats 1000000 in
theorem begun_f (I : Inn) (V : Ls) (q : Bool) (w : World) (hl : I.Few) (hr : InnR w V I) (hq : begunL I.b = q) :
    Calls Try.prog 22 #[I.val V] w fun e w' => e = .returned (.bool q) ∧ Below w.heap.size w w' := by
  obtain ⟨r, wk, st, ot, bs, bo, be, bd, sb⟩ := I
  have hb := hr.b
  have hl := hl.b
  dsimp only at hb hl hq
  show Calls Try.prog 22 #[innV r wk st ot V] w _
  have i1 : (innL r wk st ot V)[14]? = some V.b := rfl
  have i2 : (innL r wk st ot V).toArray[14]? = some V.b := rfl
  clear hr
  generalize V.b = B at hb i1 i2
  go_enter Try.func22, Try.ntmps22
  go_wp2_with (go_at_call 33; refine (cont_st B bs q _ (by omega) (hb.to (cur_new w _)) hq).mono ?_; rintro e w1 ⟨rfl, rfl⟩)
  go_ret
  exact ⟨rfl, cur_new w _⟩
theorem known_f (I : Inn) (V : Ls) (p : Int) (q : Bool) (w : World) (hl : I.Few) (hr : InnR w V I) (hq : knownS I p = q) :
    Calls Try.prog 23 #[I.val V, .int .i64 p] w fun e w' => e = .returned (.bool q) ∧ Below w.heap.size w w' := by
  obtain ⟨r, wk, st, ot, bs, bo, be, bd, sb⟩ := I
  obtain ⟨A, c, hf, hc⟩ := hr.b.form
  have hl := hl.b
  unfold knownS at hq
  dsimp only at hf hc hl hq
  rw [stC_len] at hf hc
  show Calls Try.prog 23 #[innV r wk st ot V, .int .i64 p] w _
  have i1 : (innL r wk st ot V)[14]? = some (.slice A bs.length c) := by rw [← hf]; rfl
  have HQ := Lib.hid hq
  clear hq hr hf
  go_enter Try.func23, Try.ntmps23
  go_wp2
  all_goals
    go_ret
    exact ⟨ret_bool (by rw [← HQ.out]; simp <;> omega), cur_new w _⟩
set_option maxRecDepth 100000 in
set_option maxHeartbeats 1000000 in
theorem vacant_f (I : Inn) (V : Ls) (q : Bool) (w : World) (hl : I.Few) (hr : InnR w V I) (hq : vacantS I = q) :
    Calls Try.prog 18 #[I.val V] w fun e w' => e = .returned (.bool q) ∧ Below w.heap.size w w' := by
  have HR := Lib.hid hr
  have HL := Lib.hid hl
  have HQ := Lib.hid hq
  obtain ⟨r, wk, st, ot, bs, bo, be, bd, sb⟩ := I
  unfold vacantS at hq
  dsimp only at hq
  clear hl hr
  show Calls Try.prog 18 #[innV r wk st ot V] w _
  have HQ := Lib.hid hq
  clear hq
  cases hbg : begunL bs
  · have HB := Lib.hid hbg
    clear hbg
    go_enter Try.func18, Try.ntmps18
    go_wp2_with (first
      | (refine wpList_load_row rfl 32 _ rfl w.heap.size (by rfl) 32 (innL r wk st ot V).toArray (0, 0) _ (Blk.new w _ _) Try.underlying32 rfl inn_info ?_)
      | (go_at_call 22; refine (begun_f ⟨r, wk, st, ot, bs, bo, be, bd, sb⟩ V _ _ HL.out (HR.out.to (cur_new w _)) HB.out).mono ?_; rintro e w1 ⟨rfl, hb1⟩))
    go_ret
    exact ⟨ret_bool (by rw [← HQ.out, HB.out]; rfl), cur_step0 hb1⟩
  · have HB := Lib.hid hbg
    clear hbg
    cases hst : (st == 0)
    all_goals
      have HS := Lib.hid hst
      go_enter Try.func18, Try.ntmps18
      go_wp2_with (first
        | (refine wpList_load_row rfl 32 _ rfl w.heap.size (by rfl) 32 (innL r wk st ot V).toArray (0, 0) _ (Blk.new w _ _) Try.underlying32 rfl inn_info ?_)
        | (go_at_call 22; refine (begun_f ⟨r, wk, st, ot, bs, bo, be, bd, sb⟩ V _ _ HL.out (HR.out.to (cur_new w _)) HB.out).mono ?_; rintro e w1 ⟨rfl, hb1⟩; have hin := (Blk.new w 32 (innL r wk st ot V)).to hb1; have c12 : w1.cell? ⟨w.heap.size, 12, none⟩ = some (.int .i64 st) := hin.cell 12; have c13 : w1.cell? ⟨w.heap.size, 13, none⟩ = some (.int .i64 ot) := hin.cell 13; clear hin))
      all_goals
        go_ret
        exact ⟨ret_bool (by rw [← HQ.out, HB.out, HS.out]; simp), cur_step0 hb1⟩
end Go.Proofs.Ytjlmlafiojpjmaa
