/-
  Chapter 49: the first day on which both teams may play.
-/
import Derived.Test.YthoocjcbpjdjhaaLeaf49
namespace Go.Proofs.Ythoocjcbpjdjhaa
open Go.RowKit

theorem plays_f' (r h a t : Int) (w : World) :
    Calls Try.prog 25 #[.agg #[.int .i64 r, .int .i64 h, .int .i64 a], .int .i64 t] w fun e w' => e = .returned (.bool (playsL ⟨r, h, a⟩ t)) ∧ Below w.heap.size w w' := plays_f ⟨r, h, a⟩ t w
theorem plays_r' (r h a t : Int) (w : World) :
    Calls Try.prog 31 #[.agg #[.int .i64 r, .int .i64 h, .int .i64 a], .int .i64 t] w fun e w' => e = .returned (.bool (playsL ⟨r, h, a⟩ t)) ∧ Below w.heap.size w w' := plays_r ⟨r, h, a⟩ t w
theorem early_next {f : Fx} {l : List Pf} {k : Nat} {p : Pf} {rest day : Int} (h : l[k]? = some p) :
    earlyL f rest day (l.take (k + 1)) = if (playsL p.f f.h || playsL p.f f.a) = true then max (earlyL f rest day (l.take k)) (p.d + rest + 1) else earlyL f rest day (l.take k) := by
  unfold earlyL
  rw [take_next h, List.foldl_append]
  rfl
def EarlyI (w : World) (l : List Pf) (f : Fx) (x y : Int) (s i : Value) (wr : World) : Prop :=
  ∃ k : Nat, k ≤ l.length ∧ i = .int .i64 k ∧ s = .int .i64 (earlyL f y x (l.take k)) ∧ 0 ≤ earlyL f y x (l.take k) ∧ earlyL f y x (l.take k) ≤ 1002000 ∧
    Keep w wr [(w.heap.size, 1, .int .i64 f.h), (w.heap.size, 2, .int .i64 f.a), (w.heap.size + 1, 0, .int .i64 x), (w.heap.size + 1, 1, .int .i64 y)]
theorem EarlyI.next {w wr w1 : World} {l : List Pf} {f : Fx} {x y s : Int} {k : Nat} (h : Keep w wr [(w.heap.size, 1, .int .i64 f.h), (w.heap.size, 2, .int .i64 f.a), (w.heap.size + 1, 0, .int .i64 x), (w.heap.size + 1, 1, .int .i64 y)])
    (hb : Below wr.heap.size wr w1) (hk : k < l.length) (e : s = earlyL f y x (l.take (k + 1))) (h0 : 0 ≤ s) (h1 : s ≤ 1002000) : EarlyI w l f x y (.int .i64 s) (.int .i64 (k + 1)) w1 := by
  subst e
  exact ⟨k + 1, hk, by simp, rfl, h0, h1, h.to hb⟩
set_option maxHeartbeats 400000 in
theorem early_r (A A2 : Option Addr) (c n2 c2 : Nat) (l : List Pf) (f : Fx) (x y : Int) (w : World) (hl : l.length ≤ 1000) (hr : Rd pfE 5 w w.heap.size A l)
    (hx : 0 ≤ x ∧ x ≤ 1000000) (hy : 0 ≤ y ∧ y ≤ 1000) (hd : ∀ p ∈ l, 0 ≤ p.d ∧ p.d ≤ 1000000) :
    Calls Try.prog 29 #[.slice A l.length c, f.val, .agg #[.int .i64 x, .int .i64 y, .slice A2 n2 c2]] w fun e w' => e = .returned (.int .i64 (earlyL f y x l)) ∧ Below w.heap.size w w' := by
  obtain ⟨fr, fh, fa⟩ := f
  unfold Fx.val
  go_enter Try.func29, Try.ntmps29
  go_wp2
  go_loopw [7, 14] (EarlyI w l ⟨fr, fh, fa⟩ x y) (fun _ i _ => l.length - (intOf i).toNat)
  case atStart => exact ⟨0, Nat.zero_le _, rfl, rfl, by show 0 ≤ x; omega, by show x ≤ 1002000; omega, ((Below.refl _ _).alloc (Nat.le_refl _) _).alloc (by simp) _, by simp; omega⟩
  case round =>
    obtain ⟨k, hk, rfl, rfl, hlo, hhi, hm⟩ := hrel
    have HM := Lib.hid hm
    obtain ⟨hb, hc⟩ := hm
    simp only [List.forall_mem_cons] at hc
    obtain ⟨⟨hz0, f1⟩, ⟨_, f2⟩, ⟨hz, s1⟩, ⟨_, s2⟩, _⟩ := hc
    have hsz := hb.size
    by_cases hlt : k < l.length
    · obtain ⟨p, hp⟩ : ∃ p, l[k]? = some p := ⟨_, List.getElem?_eq_getElem hlt⟩
      obtain ⟨b, off, rfl, hbb, c0, c1, c2, c3, c4⟩ := rdPf hr hb hp
      have HN := Lib.hid (early_next (f := ⟨fr, fh, fa⟩) (rest := y) (day := x) hp)
      have hpd := hd p (List.mem_of_getElem? hp)
      obtain ⟨⟨pr, ph, pa⟩, pd, pg⟩ := p
      have HP := Lib.hid hp
      clear hp hb
      by_cases e1 : playsL ⟨pr, ph, pa⟩ fh = true
      · have HE := Lib.hid e1
        go_wp2_with (go_at_call 31; refine (plays_r' _ _ _ _ _).mono ?_; rintro e w1 ⟨rfl, hb1⟩; obtain ⟨cc, cf⟩ := bcell hb1; first | have hcur := cur_step1 hcur hb1 | have hcur := cur_step0 hb1)
        go_roundw
        case rel =>
          refine EarlyI.next HM.out hcur hlt ?_ ?_ ?_
          · rw [HN.out, HE.out]; simp [Int.max_def]; omega
          · split <;> omega
          · split <;> omega
        case measure => simp [intOf]; omega
      have e1 : playsL ⟨pr, ph, pa⟩ fh = false := by simpa using e1
      by_cases e2 : playsL ⟨pr, ph, pa⟩ fa = true
      all_goals
        have HE := Lib.hid e1
        have HF := Lib.hid e2
        go_wp2_with (go_at_call 31; refine (plays_r' _ _ _ _ _).mono ?_; rintro e w1 ⟨rfl, hb1⟩; obtain ⟨cc, cf⟩ := bcell hb1; (first | have hcur := cur_step1 hcur hb1 | have hcur := cur_step0 hb1); have z1 : wr.heap.size < w1.heap.size := (by have q := hb1.size; (try simp at q); omega); have z2 : w.heap.size < w1.heap.size := (by omega); have z3 : w.heap.size + 1 < w1.heap.size := (by omega))
        go_roundw
        case rel =>
          refine EarlyI.next HM.out hcur hlt ?_ ?_ ?_
          · rw [HN.out, HE.out]; simp [HF.out, Int.max_def]; try omega
          · (try split) <;> omega
          · (try split) <;> omega
        case measure => simp [intOf]; omega
    · go_wp2
      go_ret
      exact ⟨ret_int (by rw [List.take_of_length_le (by omega)]), hb⟩
end Go.Proofs.Ythoocjcbpjdjhaa
