/-
  Chapter 58, the reference: find, same, ids.
-/
import Derived.Test.YtimmlffgokgekaaEqs
import Derived.Test.YtimmlffgokgekaaArcU
import Derived.Test.YtimmlffgokgekaaAppL
import Derived.Test.YtimmlffgokgekaaSoC58
set_option linter.unusedSimpArgs false
set_option linter.unusedVariables false
namespace Go.Proofs.Ytimmlffgokgekaa
open Go.RowKit
set_option maxRecDepth 100000
set_option maxHeartbeats 4000000
def FdR (l : List Ent) (i : Int) (w : World) (iv : Value) (wr : World) : Prop := ∃ k : Nat, k ≤ l.length ∧ iv = .int .i64 k ∧ (∀ j x, j < k → l[j]? = some x → x.id ≠ i) ∧ Below w.heap.size w wr
theorem fnd_at {l : List Ent} {i : Int} {k : Nat} {x : Ent} (h : l[k]? = some x) (hn : ∀ j y, j < k → l[j]? = some y → y.id ≠ i) (hx : x.id = i) : fnd l i = some x := by
  induction l generalizing k with
  | nil => simp at h
  | cons y r ih =>
    unfold fnd
    rw [List.find?_cons]
    cases k with
    | zero => simp at h; subst h; simp [hx]
    | succ k =>
      have h0 := hn 0 y (by omega) rfl
      rw [show decide (y.id = i) = false from decide_eq_false h0]
      exact ih (k := k) (by simpa using h) (fun j z hj hz => hn (j + 1) z (by omega) (by simpa using hz))
theorem find_r (l : List Ent) (A0 : Option Addr) (c0 : Nat) (i : Int) (w : World) (hl : l.length ≤ 1000000) (hrd : Rd entE 21 w w.heap.size A0 l) :
    Calls Try.prog 42 #[.slice A0 l.length c0, .int .i64 i] w fun e' w' => (∃ A c, e' = .returned (.slice A (fnd l i).toList.length c) ∧ Rd entE 21 w' w'.heap.size A (fnd l i).toList) ∧ Below w.heap.size w w' := by
  have HRD := Lib.hid hrd
  clear hrd
  go_enter Try.func42, Try.ntmps42
  go_wp2_with (fail)
  go_loopw [9] (FdR l i w) (fun iv _ => l.length - (intOf iv).toNat)
  case atStart => exact ⟨0, by omega, rfl, fun j x hj => by omega, Below.refl _ _⟩
  case round =>
    obtain ⟨k, hk, rfl, hno, hb⟩ := hrel
    have HNO := Lib.hid hno
    have HB := Lib.hid hb
    clear hno hb
    by_cases hkl : k < l.length
    · obtain ⟨x, hx⟩ : ∃ x, l[k]? = some x := ⟨_, List.getElem?_eq_getElem hkl⟩
      obtain ⟨b2, off2, rfl, hb2l, hc2⟩ := rd_at HRD.out HB.out hx
      have HRA := Lib.hid hc2
      have HX := Lib.hid hx
      clear hc2 hx
      obtain ⟨W6, hW6⟩ : ∃ y, wr.alloc (.cells (entE x).toArray 39) = y := ⟨_, rfl⟩
      have HB6 := Lib.hid (show Below wr.heap.size wr W6 by rw [← hW6]; exact cur_new _ _)
      have HX6 := Lib.hid (show Blk W6 wr.heap.size 39 (entE x) by rw [← hW6]; exact Blk.new wr _ _)
      have S6 := Lib.hid hW6
      have e0 : W6.cell? ⟨wr.heap.size, 0, none⟩ = some (.int .i64 x.id) := by rw [HX6.out.cell]; rfl
      clear hW6
      by_cases he : x.id = i
      · have gi : (x.id == i) = true := by simpa using he
        have HF := Lib.hid (fnd_at HX.out HNO.out he)
        clear he
        go_upto_region 5 with (first | (refine wpList_load_mid rfl 39 _ rfl b2 (off2 + k * 21) (by rfl) (entE x) _ HRA.out (by rfl) (by rfl) ent_info ?_) | (refine wpList_storeNew rfl _ _ 39 rfl _ (entE x).toArray ent_info (by rfl) (by rfl) rfl (ent_one _) ?_; rw [S6.out]))
        refine wp_region_lit ?_
        refine wpList_loadC rfl _ 39 rfl wr.heap.size 39 (entE x) _ rfl (by rfl) (by rfl) (by rfl) HX6.out ?_
        refine wpList_buildE Try.enElem rfl 1 _ rfl [x] rfl (by decide) (by decide) (by rfl) ?_
        rw [show [x].flatMap entE = entE x from List.append_nil _]
        obtain ⟨W7, hW7⟩ : ∃ y, W6.alloc (.cells (entE x).toArray 39) = y := ⟨_, rfl⟩
        have HB7 := Lib.hid (show Below W6.heap.size W6 W7 by rw [← hW7]; exact cur_new _ _)
        have HK7 := Lib.hid (show Blk W7 W6.heap.size 39 (entE x) by rw [← hW7]; exact Blk.new W6 _ _)
        rw [hW7]
        clear hW7
        go_wp2_with (fail)
        go_ret
        rw [HF.out]
        exact ⟨⟨_, _, rfl, rd_one HK7.out⟩, cur_step1 (cur_step1 HB.out HB6.out) HB7.out⟩
      · have gi : (x.id == i) = false := by simpa using he
        have HN2 := Lib.hid (show ∀ j y, j < k + 1 → l[j]? = some y → y.id ≠ i from fun j y hj hy => by
          by_cases e : j = k
          · subst e; rw [HX.out] at hy; injection hy with hy; subst hy; exact he
          · exact HNO.out j y (by omega) hy)
        clear he
        go_wp2_with (first | (refine wpList_load_mid rfl 39 _ rfl b2 (off2 + k * 21) (by rfl) (entE x) _ HRA.out (by rfl) (by rfl) ent_info ?_) | (refine wpList_storeNew rfl _ _ 39 rfl _ (entE x).toArray ent_info (by rfl) (by rfl) rfl (ent_one _) ?_; rw [S6.out]))
        exact ⟨⟨k + 1, hkl, rfl, HN2.out, cur_step1 HB.out HB6.out⟩, by show l.length - (k + 1) < l.length - k; omega⟩
    · have HF := Lib.hid (show fnd l i = none from fnd_none.2 fun x hx => by
        obtain ⟨j, hj⟩ := List.getElem?_of_mem hx
        exact HNO.out j x (by have := (List.getElem?_eq_some_iff.1 hj).1; omega) hj)
      go_wp2_with (fail)
      go_ret
      rw [HF.out]
      exact ⟨⟨none, 0, rfl, Rd.nil_⟩, HB.out⟩
theorem same_r (p q : Option Ent) (A B : Option Addr) (c d : Nat) (w : World) (hr : Rd entE 21 w w.heap.size A p.toList) (hs : Rd entE 21 w w.heap.size B q.toList) :
    Calls Try.prog 43 #[.slice A p.toList.length c, .slice B q.toList.length d] w fun e w' => e = .returned (.bool (decide (p = q))) ∧ Below w.heap.size w w' := by
  cases p with
  | none =>
    cases q with
    | none =>
      simp only [Option.toList_none, List.length_nil]
      go_enter Try.func43, Try.ntmps43
      go_wp2_with fail
      go_quiet (fail)
      go_wp2
      go_ret
      exact ⟨rfl, below_drewN (Below.refl _ _) _⟩
    | some y =>
      simp only [Option.toList_none, Option.toList_some, List.length_nil, List.length_cons]
      go_enter Try.func43, Try.ntmps43
      go_wp2_with fail
      go_quiet (fail)
      go_wp2
      go_ret
      exact ⟨rfl, below_drewN (Below.refl _ _) _⟩
  | some x =>
    cases q with
    | none =>
      simp only [Option.toList_none, Option.toList_some, List.length_nil, List.length_cons]
      go_enter Try.func43, Try.ntmps43
      go_wp2_with fail
      go_quiet (fail)
      go_wp2
      go_ret
      exact ⟨rfl, below_drewN (Below.refl _ _) _⟩
    | some y =>
      obtain ⟨b1, o1, rfl, l1, hc1⟩ := rd_at hr (Below.refl _ _) (k := 0) (x := x) rfl
      obtain ⟨b2, o2, rfl, l2, hc2⟩ := rd_at hs (Below.refl _ _) (k := 0) (x := y) rfl
      obtain ⟨N, hN⟩ : ∃ N : Nat, 21 = N := ⟨_, rfl⟩
      have hA : ∀ w, Sem.run Try.prog (isAgg 39) w = .ok true w := fun w => Try.isAgg39 w
      have hZ : ∀ w, Sem.run Try.prog (sizeOf 39) w = .ok N w := fun w => by rw [← hN]; exact Try.sizeOf39 w
      have hl1 : ∀ n, Sem.run Try.prog (loadCellsFrom ⟨b1, o1, none⟩ 0 N #[]) (w.drewN n) = .ok (entE x).toArray (w.drewN n) := fun n => run_mid (fun j v hv => by simpa using hc1 j v hv) hN
      have hl2 : ∀ n, Sem.run Try.prog (loadCellsFrom ⟨b2, o2, none⟩ 0 N #[]) (w.drewN n) = .ok (entE y).toArray (w.drewN n) := fun n => run_mid (fun j v hv => by simpa using hc2 j v hv) hN
      have p0 : w.cell? ⟨b1, o1, none⟩ = some (.int .i64 x.id) := by have := hc1 0 _ rfl; simpa using this
      have q0 : w.cell? ⟨b2, o2, none⟩ = some (.int .i64 y.id) := by have := hc2 0 _ rfl; simpa using this
      have hg := guard_en
      have kn : ∀ w : World, (binOp .eql 39 (.agg (entE x).toArray) (.agg (entE y).toArray)).run Try.prog w = .ok (.bool (decide (x = y))) w := fun w => by rw [ent_eql]
      simp only [Option.toList_some, List.length_nil, List.length_cons]
      clear hc1 hc2 hr hs hN
      generalize (entE x).toArray = ax at *
      generalize (entE y).toArray = ay at *
      have hd : decide (some x = some y) = decide (x = y) := by simp
      rw [hd]
      generalize decide (x = y) = dd at kn ⊢
      clear hd
      go_enter Try.func43, Try.ntmps43
      go_wp2_with fail
      go_quiet (fail)
      go_wp2
      go_ret
      exact ⟨rfl, below_drewN (Below.refl _ _) _⟩
end Go.Proofs.Ytimmlffgokgekaa
