/-
  Chapter 50: small, awake.
-/
import Derived.Test.YtnbhplhhemkniaaRefu50
namespace Go.Proofs.Ytnbhplhhemkniaa
open Go.RowKit
set_option maxRecDepth 100000
set_option maxHeartbeats 4000000
def smallB (n m : Nat) : Bool := decide (n ≤ 60) && decide (m ≤ 100)
theorem small_p (A C : Option Addr) (n m jc cc : Nat) (first : Int) (w : World) : Calls Try.prog 8 #[.agg #[.slice A n jc, .int .i64 first, .slice C m cc]] w fun e w' => e = .returned (.bool (smallB n m)) ∧ Below w.heap.size w w' := by
  obtain ⟨v, hv⟩ : ∃ v, smallB n m = v := ⟨_, rfl⟩
  have HV := Lib.hid hv
  rw [hv]
  clear hv
  go_enter Try.func8, Try.ntmps8
  go_wp2_with fail
  all_goals
    go_ret
    exact ⟨ret_bool (by rw [← HV.out, Bool.eq_iff_iff]; simp only [smallB, Bool.and_eq_true, decide_eq_true_eq, beq_iff_eq, Bool.false_eq_true, true_iff, false_iff] <;> omega), cur_new _ _⟩
def awJ : List Jb := [⟨10, 11⟩, ⟨10, 10⟩, ⟨12, 13⟩]
def awC : List Int := [1, 1, 0, 1]
theorem aw1 : ckT awJ 10 awC = 0 := by decide +kernel
theorem aw2 : planOk awJ 10 awC = true := by decide +kernel
theorem aw3 : planD awJ 10 awC = [11, 10, 13] := by decide +kernel
theorem aw4 : ckT (awJ ++ [⟨10, 11⟩]) 10 awC = 0 := by decide +kernel
theorem aw5 : planOk (awJ ++ [⟨10, 11⟩]) 10 awC = false := by decide +kernel
theorem aw6 : IsTight (awJ ++ [⟨10, 11⟩]) 10 awC 10 11 := by
  refine .inl ⟨⟨⟨⟨10, 11⟩, by decide, rfl⟩, ⟨⟨10, 11⟩, by decide, rfl⟩, by decide +kernel⟩, ?_⟩
  have h : (awJ ++ [(⟨10, 11⟩ : Jb)]).all (fun a => (awJ ++ [(⟨10, 11⟩ : Jb)]).all fun b => !(badW (awJ ++ [⟨10, 11⟩]) 10 awC a.f b.t) || (decide (10 < a.f) || (decide (10 = a.f) && decide (11 ≤ b.t)))) = true := by decide +kernel
  intro a ha b hb hbad
  have := List.all_eq_true.1 (List.all_eq_true.1 h a ha) b hb
  rw [hbad] at this
  simpa using this
theorem Try.infoJob : (Try.prog.info? 43).map (fun i => (i.zero, i.size, i.bytes)) = some (some (.agg #[.int .i64 0, .int .i64 0]), 2, 16) := by kernel_rfl
theorem Try.jbElem : ElemOf Try.prog jbE 2 16 22 43 := .mk' Try.infoJob rfl Try.underlying22 (by decide) jbE_len (fun x u hu => by simp [jbE] at hu; rcases hu with rfl | rfl <;> rfl)
def jcells : List Value := [.int .i64 10, .int .i64 11, .int .i64 10, .int .i64 10, .int .i64 12, .int .i64 13]
def ccells : List Value := [.int .i64 1, .int .i64 1, .int .i64 0, .int .i64 1]
theorem jflat : awJ.flatMap jbE = jcells := rfl
theorem cflat : awC.flatMap inE = ccells := rfl
theorem own_new (w : World) {α : Type} {enc : α → List Value} {size : Nat} (e : TypeId) (l : List α) (xs : List Value) (hx : l.flatMap enc = xs) (hl : xs.length = l.length * size) (hm : l.length ≤ maxLen) (base : Nat) (hb : base ≤ w.heap.size) :
    OwnL enc size e base (w.alloc (.cells xs.toArray e)) (.slice (some ⟨w.heap.size, 0, none⟩) l.length l.length) l := by
  refine ⟨by rw [hx, hl], .inr ⟨w.heap.size, l.length, xs.toArray, rfl, hb, heap_alloc_new w _, Nat.le_refl _, hm, by simp [hl], ?_⟩⟩
  rw [hx]
  simp only []
  rw [← hl, List.take_length]
theorem rd_app {w w' : World} {base e size n m g cap b : Nat} {v : Value} {xs news : List Value} {l : List Int} (h : Rd inE 1 w w.heap.size (some ⟨b, 0, none⟩) l) (ha : App w w' base e size v g cap n m xs news) (hne : v.ownBlock ≠ some b) : Rd inE 1 w' w'.heap.size (some ⟨b, 0, none⟩) l := by
  intro k x hx
  obtain ⟨b', off, e1, hb, hc⟩ := h k x hx
  injection e1 with e1
  injection e1 with e1 e2 _
  subst e1 e2
  exact ⟨b, 0, rfl, by have := ha.grown.size; omega, fun j u hu => (ha.far hb hne).trans (hc j u hu)⟩
theorem plan4 (g h cap : Nat) (w : World) (h1 : Rd jbE 2 w w.heap.size (some ⟨g, 0, none⟩) (awJ ++ [⟨10, 11⟩])) (h2 : Rd inE 1 w w.heap.size (some ⟨h, 0, none⟩) awC) :
    Calls Try.prog 9 #[.slice (some ⟨g, 0, none⟩) (awJ.length + 1) cap, .int .i64 10, .slice (some ⟨h, 0, none⟩) 4 4] w fun e w' => ∃ v x y err, e = .returned (.tuple #[v, .agg #[.int .i64 x, .int .i64 y], .int .i64 err]) ∧ PlanS w.heap.size (awJ ++ [⟨10, 11⟩]) 10 awC v x y err w' ∧ Below w.heap.size w w' := by
  have hl : awJ.length + 1 = (awJ ++ [(⟨10, 11⟩ : Jb)]).length := by rw [List.length_append]; rfl
  rw [hl]
  exact plan_p (some ⟨g, 0, none⟩) (some ⟨h, 0, none⟩) cap 4 (awJ ++ [⟨10, 11⟩]) awC 10 w (by rw [← hl]; show 4 ≤ 4000000; omega) (by show 4 ≤ 4000000; omega) h1 h2
theorem awake_p (w : World) : Calls Try.prog 7 #[] w fun e w' => e = .returned (.bool true) ∧ Below w.heap.size w w' := by
  have HB0 := Lib.hid (show Below w.heap.size w ((w.alloc (.cells jcells.toArray 43)).alloc (.cells ccells.toArray 3)) from cur_two w _ _)
  have HOJ := Lib.hid (show OwnL jbE 2 43 w.heap.size ((w.alloc (.cells jcells.toArray 43)).alloc (.cells ccells.toArray 3)) (.slice (some ⟨w.heap.size, 0, none⟩) 3 3) awJ from
    World.ownsRow.alloc (own_new w 43 awJ jcells jflat (by decide) (by decide) w.heap.size (Nat.le_refl _)) _)
  have HOC := Lib.hid (show OwnL inE 1 3 w.heap.size ((w.alloc (.cells jcells.toArray 43)).alloc (.cells ccells.toArray 3)) (.slice (some ⟨w.heap.size + 1, 0, none⟩) 4 4) awC from by
    have := own_new (w.alloc (.cells jcells.toArray 43)) 3 (size := 1) awC ccells cflat (by decide) (by decide) w.heap.size (by simp)
    rwa [show (w.alloc (.cells jcells.toArray 43)).heap.size = w.heap.size + 1 by simp] at this)
  go_enter Try.func7, Try.ntmps7
  go_wp2_with fail
  obtain ⟨w0, hw0⟩ : ∃ w0, w0 = (w.alloc (.cells jcells.toArray 43)).alloc (.cells ccells.toArray 3) := ⟨_, rfl⟩
  have hgo : ((w.alloc (Obj.cells #[Value.int IntKind.i64 10, Value.int IntKind.i64 11, Value.int IntKind.i64 10, Value.int IntKind.i64 10, Value.int IntKind.i64 12, Value.int IntKind.i64 13] 43)).alloc (Obj.cells #[Value.int IntKind.i64 1, Value.int IntKind.i64 1, Value.int IntKind.i64 0, Value.int IntKind.i64 1] 3)) = w0 := hw0.symm
  rw [hgo]
  rw [← hw0] at HB0 HOJ HOC
  clear hw0 hgo
  have HRJ := Lib.hid (show Rd jbE 2 w0 w0.heap.size (some ⟨w.heap.size, 0, none⟩) awJ from by
    obtain ⟨A, c, e, hr, _⟩ := OwnL.rd jbE_len HOJ.out
    injection e with e _ _
    rw [e]; exact hr)
  have HRC := Lib.hid (show Rd inE 1 w0 w0.heap.size (some ⟨w.heap.size + 1, 0, none⟩) awC from by
    obtain ⟨A, c, e, hr, _⟩ := OwnL.rd inE_len HOC.out
    injection e with e _ _
    rw [e]; exact hr)
  go_at_call 9
  refine (plan_p (some ⟨w.heap.size, 0, none⟩) (some ⟨w.heap.size + 1, 0, none⟩) 3 4 awJ awC 10 w0 (by decide) (by decide) HRJ.out HRC.out).mono ?_
  rintro e w1 ⟨v, x, y, err, rfl, hp, hb1⟩
  have hp2 : (∃ g' c', v = .slice (some ⟨g', 0, none⟩) 3 c' ∧ w0.heap.size ≤ g' ∧ Rd inE 1 w1 w1.heap.size (some ⟨g', 0, none⟩) [11, 10, 13]) ∧ x = 0 ∧ y = 0 ∧ err = 0 := by
    rcases hp with ⟨h, _⟩ | ⟨_, _, ⟨A', c', h1, h1', h2⟩, h3⟩ | ⟨_, h, _⟩
    · exact absurd aw1 h
    · rw [aw3] at h2; exact ⟨⟨A', c', h1, h1', h2⟩, h3⟩
    · rw [aw2] at h; cases h
  obtain ⟨⟨DA, dc, rfl, hda, hrd⟩, rfl, rfl, rfl⟩ := hp2
  have hw0s : w.heap.size < w0.heap.size := by have := (own_lo (show World.ownsRow _ _ _ _ _ _ _ from HOJ.out) (k := w.heap.size) rfl).2; exact this
  have HRD := Lib.hid hrd
  have B1 := Lib.hid (cur_step1 HB0.out hb1)
  have OJ1 := Lib.hid (own_below HOJ.out hb1 (Nat.le_refl _))
  have RC1 := Lib.hid (HRC.out.to hb1)
  clear hrd hb1 hp HRJ HRC HOJ HOC HB0
  have hbs := B1.out.size
  go_wp2_with (refine wpList_app1 Try.jbElem _ rfl _ _ rfl w.heap.size (some ⟨w.heap.size, 0, none⟩) 3 awJ rfl (World.ownsRow.alloc (World.ownsRow.alloc OJ1.out _) _) ⟨10, 11⟩ (w1.heap.size + 1) 1 rfl (two_new w1 _ _) (by decide) (by decide) (by simp; omega) ?_; intro g cap w2 ha; have HAP := Lib.hid ha; clear ha)
  go_at_call 9
  have hW2 : Below w1.heap.size w1 ((w1.alloc (.cells #[.int .i64 0, .int .i64 0] 30)).alloc (.cells #[.int .i64 10, .int .i64 11] 43)) := cur_two w1 _ _
  have hdl : DA < w1.heap.size := by
    obtain ⟨b, off, e, hb, _⟩ := HRD.out 0 11 rfl
    injection e with e; injection e with e _ _; omega
  have RJ2 : Rd jbE 2 w2 w2.heap.size (some ⟨g, 0, none⟩) (awJ ++ [⟨10, 11⟩]) := by
    have ho := HAP.out.one (f := (⟨10, 11⟩ : Jb)) rfl
    obtain ⟨A, c, e, hr, _⟩ := OwnL.rd jbE_len ho
    injection e with e _ _
    rw [e]; exact hr
  have hne1 : (Value.slice (some ⟨w.heap.size, 0, none⟩) awJ.length 3).ownBlock ≠ some (w.heap.size + 1) := by intro e; injection e with e; have e : w.heap.size = w.heap.size + 1 := e; omega
  have hne2 : (Value.slice (some ⟨w.heap.size, 0, none⟩) awJ.length 3).ownBlock ≠ some DA := by intro e; injection e with e; have e : w.heap.size = DA := e; omega
  have RC2 := Lib.hid (rd_app (RC1.out.to hW2) HAP.out hne1)
  have RD2 := Lib.hid (rd_app (HRD.out.to hW2) HAP.out hne2)
  have HRJ2 := Lib.hid RJ2
  have B2 := Lib.hid (show Below w.heap.size w w2 from (cur_step1 B1.out hW2).grown HAP.out.grown (cur_step1 B1.out hW2).size (fun k hk => by injection hk with hk; have hk : w.heap.size = k := hk; omega))
  clear RJ2 hW2
  refine (plan4 g (w.heap.size + 1) cap w2 HRJ2.out RC2.out).mono ?_
  rintro e w3 ⟨v, x, y, err, rfl, hp, hb3⟩
  have hp2 : v = .slice none 0 0 ∧ x = 10 ∧ y = 11 ∧ err = 13 := by
    rcases hp with ⟨h, _⟩ | ⟨_, h, _⟩ | ⟨_, _, h1, h2, h3⟩
    · exact absurd aw4 h
    · rw [aw5] at h; cases h
    · have := tight_unique h2 aw6
      exact ⟨h1, this.1, this.2, h3⟩
  obtain ⟨rfl, rfl, rfl, rfl⟩ := hp2
  have hW4 := cur_new w3 (.cells #[.int .i64 10, .int .i64 11] 30)
  have hrd3 := (RD2.out.to hb3).to hW4
  have B3 := Lib.hid (cur_step1 B2.out hb3)
  have B4 := Lib.hid (cur_step1 (cur_step1 B2.out hb3) hW4)
  have k0 : (w3.alloc (.cells #[.int .i64 10, .int .i64 11] 30)).cell? ⟨DA, 0, none⟩ = some (.int .i64 11) := by obtain ⟨b, off, e, _, hc⟩ := hrd3 0 11 rfl; injection e with e; injection e with e1 e2 _; subst e1 e2; exact hc 0 _ rfl
  have k1 : (w3.alloc (.cells #[.int .i64 10, .int .i64 11] 30)).cell? ⟨DA, 1, none⟩ = some (.int .i64 10) := by obtain ⟨b, off, e, _, hc⟩ := hrd3 1 10 rfl; injection e with e; injection e with e1 e2 _; subst e1 e2; exact hc 0 _ rfl
  have k2 : (w3.alloc (.cells #[.int .i64 10, .int .i64 11] 30)).cell? ⟨DA, 2, none⟩ = some (.int .i64 13) := by obtain ⟨b, off, e, _, hc⟩ := hrd3 2 13 rfl; injection e with e; injection e with e1 e2 _; subst e1 e2; exact hc 0 _ rfl
  have bw2 : Blk w2 w1.heap.size 30 [.int .i64 0, .int .i64 0] := by
    unfold Blk
    rw [HAP.out.grown.block _ (by simp; omega) (fun e => by injection e with e; have e : w1.heap.size = w.heap.size := e; omega)]
    exact two_old w1 _ _
  have bw4 := (bw2.to hb3).to hW4
  have q0 : (w3.alloc (.cells #[.int .i64 10, .int .i64 11] 30)).cell? ⟨w1.heap.size, 0, none⟩ = some (.int .i64 0) := bw4.cell 0
  have q1 : (w3.alloc (.cells #[.int .i64 10, .int .i64 11] 30)).cell? ⟨w1.heap.size, 1, none⟩ = some (.int .i64 0) := bw4.cell 1
  have bx := Blk.new w3 30 [.int .i64 10, .int .i64 11]
  have q2 : (w3.alloc (.cells #[.int .i64 10, .int .i64 11] 30)).cell? ⟨w3.heap.size, 0, none⟩ = some (.int .i64 10) := bx.cell 0
  have q3 : (w3.alloc (.cells #[.int .i64 10, .int .i64 11] 30)).cell? ⟨w3.heap.size, 1, none⟩ = some (.int .i64 11) := bx.cell 1
  clear hp hb3 hrd3 hW4 bw2 bw4 bx
  go_wp2_with fail
  go_ret
  exact ⟨rfl, B4.out⟩
end Go.Proofs.Ytnbhplhhemkniaa
