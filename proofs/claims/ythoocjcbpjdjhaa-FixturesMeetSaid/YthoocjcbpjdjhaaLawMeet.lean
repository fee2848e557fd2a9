/-
  Chapter 49: the law FixturesMeet: the walk.
-/
import Derived.Test.YthoocjcbpjdjhaaAwake49
import Derived.Test.YthoocjcbpjdjhaaCkF49
import Derived.Test.YthoocjcbpjdjhaaBlk
import Derived.Test.YthoocjcbpjdjhaaMeetP
import Derived.Laws.IdiomArrays
namespace Go.Proofs.Ythoocjcbpjdjhaa
open Go.RowKit

def LI (W : World) (N : Nat) (i : Value) (wr : World) : Prop :=
  ∃ j : Nat, j ≤ N ∧ i = .int .i64 j ∧ Below W.heap.size W wr ∧ Blk wr W.heap.size 46 (fn 400 fun _ => .int .i64 0) ∧ Blk wr (W.heap.size + 1) 3 (fn N fun t => .int .i64 (if t < j then -1 else 0))
def MI (W Wa : World) (N : Nat) (l : List Fx) (i : Value) (wr : World) : Prop :=
  ∃ k : Nat, k ≤ l.length ∧ i = .int .i64 k ∧ Below W.heap.size W wr ∧ Blk wr W.heap.size 46 (fn 400 fun t => .int .i64 (metL (l.take k) (t / 20 : Nat) (t % 20 : Nat))) ∧
    Blk wr (W.heap.size + 1) 3 (fn N fun t => .int .i64 (lastL (l.take k) t)) ∧ Blk wr Wa.heap.size 3 (fn N fun t => .int .i64 (homesL (l.take k) t))
def FI (W : World) (N : Nat) (l : List Fx) (x y i : Value) (wr : World) : Prop :=
  ∃ t : Nat, t ≤ N ∧ i = .int .i64 t ∧ x = .int .i64 (leastL l t) ∧ y = .int .i64 (mostL l t) ∧ Below W.heap.size W wr
def FJ (W : World) (t : Nat) (i : Value) (wr : World) : Prop :=
  ∃ j : Nat, j ≤ t ∧ i = .int .i64 j ∧ Below W.heap.size W wr
theorem homes_v (A : Option Addr) (c : Nat) (l : List Fx) (t v : Int) (w : World) (hl : l.length ≤ 9223372036854775807) (hr : Rd fxE 3 w w.heap.size A l) (hv : v = homesL l t) :
    Calls Try.prog 17 #[.slice A l.length c, .int .i64 t] w fun e w' => e = .returned (.int .i64 v) ∧ Below w.heap.size w w' := by
  subst hv
  exact homes_f A c l t w hl hr
theorem zero_met : ∃ zc : Array Value, zc.toList = fn 400 (fun _ => .int .i64 0) ∧ ∀ w : World, Sem.run Try.prog (zeroValue 46) w = .ok (.agg zc) w :=
  ⟨Array.replicate 400 (.int .i64 0), by rw [← fn_rep]; simp, fun _ => by kernel_rfl⟩

set_option maxRecDepth 100000 in
set_option maxHeartbeats 4000000 in
theorem law_meet (k : Int) (d : Bool) (w : World) (hk0 : 0 ≤ k) (hk1 : k ≤ 255) :
    Calls Try.prog 6 #[.int .u8 k, .bool d] w fun e w' => e = .returned (.bool true) ∧ Below w.heap.size w w' := by
  obtain ⟨N, hN⟩ : ∃ N : Nat, 2 + k % 19 = N := ⟨(2 + k % 19).toNat, by omega⟩
  have h1 : 2 ≤ N := by omega
  have h2 : N ≤ 20 := by omega
  have HM := Lib.hid (meets d h1 h2)
  go_enter Try.func6, Try.ntmps6
  go_wp2_with fail
  refine (awake_any _).mono ?_
  rintro e w1 ⟨rfl, hb1⟩
  go_wp2_with fail
  refine (rounds_good N d w1 (by omega) (by omega)).mono ?_
  rintro e w2 ⟨v, rfl, hown, hb2⟩
  obtain ⟨l, hl⟩ : ∃ l, l = roundsL N d := ⟨_, rfl⟩
  rw [← hl] at HM hown
  clear hl
  have hb2 := cur_step1 hb1 hb2
  have hcap : ∃ A c, v = .slice A l.length c ∧ l.length ≤ c ∧ Rd fxE 3 w2 w2.heap.size A l := by
    obtain ⟨A2, c2, rfl, hrd, _⟩ := hown.rd fxE_len
    exact ⟨A2, c2, rfl, own_cap hown, hrd⟩
  obtain ⟨A, c, rfl, hlc, hrd⟩ := hcap
  have HR := Lib.hid hrd
  have hlen := HM.out.len
  clear hrd hown hb1
  go_wp2_with fail
  refine (check_f A c l N d w2 (by omega) hlc HR.out).mono ?_
  rintro e w3 ⟨rfl, hb3⟩
  rw [HM.out.chk]
  have hb0 := cur_step1 hb2 hb3
  have HR3 := Lib.hid (HR.out.to hb3)
  clear hb3 hb2 HR
  obtain ⟨zc, hzc, hzero⟩ := zero_met
  have HZ := Lib.hid hzc
  clear hzc
  go_wp2_with (first | (refine wpList_makeN _ rfl _ _ _ rfl 3 (.int .i64 0) 8 (by kernel_rfl) (by kernel_rfl) (by kernel_rfl) .i64 .i64 N (by rfl) (by rfl) (by omega) (by unfold maxLen; omega) ?_; intro w4 hq4 hb4))
  have hbm : Below w3.heap.size w3 w4 := cur_step0 hb4
  have hm4 : Blk w4 w3.heap.size 46 (fn 400 fun _ => .int .i64 0) := by
    have h0 := Blk.new w3 46 (fn 400 fun _ => .int .i64 0)
    rw [← HZ.out] at h0
    rw [← HZ.out]
    exact Blk.to (by simpa using h0) hb4
  have hl4 : Blk w4 (w3.heap.size + 1) 3 (fn N fun _ => .int .i64 0) := by simpa using hq4
  have HM4 := Lib.hid hm4
  have HL4 := Lib.hid hl4
  clear hm4 hl4 hq4 hb4
  go_loopw [43] (LI w3 N) (fun i _ => N - (intOf i).toNat)
  case atStart => exact ⟨0, by omega, rfl, hbm, HM4.out, by simpa using HL4.out⟩
  case round =>
    obtain ⟨j, hj, rfl, hb, hmet, hlast⟩ := hrel
    have HMT := Lib.hid hmet
    have HLS := Lib.hid hlast
    have c1 := hlast.frozen j
    have hlt := hlast.lt
    clear hmet hlast
    by_cases hjn : j < N
    · have c2 := HLS.out.cell j
      rw [fn_at hjn] at c2
      go_wp2
      go_roundw
      case rel =>
        refine ⟨j + 1, by omega, by simp, below_set hb (by omega) _ _, HMT.out.other (by omega) _ _, ?_⟩
        have := HLS.out.set j (.int .i64 (-1))
        rw [fn_set (f' := fun t => .int .i64 (if t < j + 1 then -1 else 0))] at this
        · exact this
        · intro t ht
          by_cases e : t = j
          · rw [if_pos e, if_pos (by omega)]
          · rw [if_neg e]
            by_cases e2 : t < j
            · rw [if_pos e2, if_pos (by omega)]
            · rw [if_neg e2, if_neg (by omega)]
      case measure => simp [intOf]; omega
    · obtain ⟨wa, rfl⟩ : ∃ wa : World, wa = wr := ⟨_, rfl⟩
      have hlast : Blk wa (w3.heap.size + 1) 3 (fn N fun t => .int .i64 (lastL (l.take 0) t)) := by
        have := HLS.out
        rw [fn_eq (f' := fun t => .int .i64 (lastL (l.take 0) t))] at this
        · exact this
        · intro t ht
          show _ = Value.int .i64 (-1)
          rw [if_pos (by omega)]
      have hmet : Blk wa w3.heap.size 46 (fn 400 fun t => .int .i64 (metL (l.take 0) (t / 20 : Nat) (t % 20 : Nat))) := HMT.out
      have HMT := Lib.hid hmet
      have HLS := Lib.hid hlast
      clear hmet hlast c1
      go_wp2_with (first | (refine wpList_makeN _ rfl _ _ _ rfl 3 (.int .i64 0) 8 (by kernel_rfl) (by kernel_rfl) (by kernel_rfl) .i64 .i64 N (by rfl) (by rfl) (by omega) (by unfold maxLen; omega) ?_; intro w5 hq5 hb5))
      have HHM := Lib.hid hq5
      have hbm5 : Below w3.heap.size w3 w5 := hb.trans (hb5.mono (by omega))
      have HMT5 := Lib.hid (HMT.out.to hb5)
      have HLS5 := Lib.hid (HLS.out.to hb5)
      clear HMT HLS hq5 hb5
      go_loopw [54] (MI w3 wa N l) (fun i _ => l.length - (intOf i).toNat)
      case atStart => exact ⟨0, by omega, rfl, hbm5, HMT5.out, HLS5.out, HHM.out⟩
      case round =>
        obtain ⟨k, hk, rfl, hb6, hmet, hlast, hhom⟩ := hrel
        have HMT := Lib.hid hmet
        have HLS := Lib.hid hlast
        have HHO := Lib.hid hhom
        have hlt6 := hhom.lt
        have fz1 := hmet.frozen
        have fz2 := hlast.frozen
        have fz3 := hhom.frozen
        have FZ1 := Lib.hid fz1
        have FZ2 := Lib.hid fz2
        have FZ3 := Lib.hid fz3
        clear hmet hlast hhom fz1 fz2 fz3
        by_cases hkl : k < l.length
        · obtain ⟨f, hf⟩ : ∃ f, l[k]? = some f := ⟨_, List.getElem?_eq_getElem hkl⟩
          obtain ⟨b, off, rfl, hbb, c0, c1, c2⟩ := rdFx HR3.out hb6 hf
          obtain ⟨s1, s2, s3, s4, s5, s6, s7⟩ := HM.out.step k f hf
          obtain ⟨r, h, a⟩ := f
          simp only [] at s1 s2 s3 s4 s5 s6 s7 c0 c1 c2
          obtain ⟨H, rfl⟩ : ∃ H : Nat, h = H := ⟨h.toNat, by omega⟩
          obtain ⟨A', rfl⟩ : ∃ A' : Nat, a = A' := ⟨a.toNat, by omega⟩
          have hH : H < N := by omega
          have hA : A' < N := by omega
          have d1 := HLS.out.cell H
          have d2 := HLS.out.cell A'
          rw [fn_at hH] at d1
          rw [fn_at hA] at d2
          have HF := Lib.hid hf
          have g1 : decide ((H : Int) < 0) = false := by simp
          have g2 : decide ((N : Int) ≤ H) = false := by simp; omega
          have g2' : decide (N ≤ H) = false := by simp; omega
          have g3 : decide ((A' : Int) < 0) = false := by simp
          have g4 : decide ((N : Int) ≤ A') = false := by simp; omega
          have g4' : decide (N ≤ A') = false := by simp; omega
          have g5 : ((H : Int) == (A' : Int)) = false := by simp; omega
          obtain ⟨x1, hx1⟩ : ∃ x1, x1 = lastL (l.take k) H := ⟨_, rfl⟩
          obtain ⟨x2, hx2⟩ : ∃ x2, x2 = lastL (l.take k) A' := ⟨_, rfl⟩
          rw [← hx1] at d1 s6
          rw [← hx2] at d2 s7
          have g6 : decide (r ≤ x1) = false := by simp; omega
          have g7 : decide (r ≤ x2) = false := by simp; omega
          have HX1 := Lib.hid hx1
          have HX2 := Lib.hid hx2
          have zb : b < wr.heap.size := by have := hb6.size; omega
          have z6 : w3.heap.size + 1 < wr.heap.size := by omega
          have z7 : w3.heap.size < wr.heap.size := by omega
          clear hf hx1 hx2
          go_wp2_with fail
          go_quiet (fail)
          go_wp2_with fail
          have hb7 : Below wr.heap.size wr ((wr.alloc (.cells #[.int .i64 r, .int .i64 H, .int .i64 A'] 37)).drewN nq) := cur_step1 (cur_new wr _) (cur_drew _ nq)
          have K7 : Keep w3 ((wr.alloc (.cells #[.int .i64 r, .int .i64 H, .int .i64 A'] 37)).drewN nq) [(wr.heap.size, 0, .int .i64 r), (wr.heap.size, 1, .int .i64 H), (wr.heap.size, 2, .int .i64 A')] :=
            (Keep.start (cur_step1 hb6 (cur_new wr _)) (by simp)).to (cur_drew _ nq)
          generalize (wr.alloc (.cells #[.int .i64 r, .int .i64 H, .int .i64 A'] 37)).drewN nq = w7 at hb7 K7 ⊢
          have HMT7 := Lib.hid (HMT.out.to hb7)
          have HLS7 := Lib.hid (HLS.out.to hb7)
          have HHO7 := Lib.hid (HHO.out.to hb7)
          have q0 := K7.get (b := wr.heap.size) (o := 0) (v := .int .i64 r) (by simp)
          have q1 := K7.get (b := wr.heap.size) (o := 1) (v := .int .i64 H) (by simp)
          have q2 := K7.get (b := wr.heap.size) (o := 2) (v := .int .i64 A') (by simp)
          have HK7 := Lib.hid K7
          have e1 := HLS7.out.cell H
          have e2 := HLS7.out.cell A'
          rw [fn_at hH, ← HX1.out] at e1
          rw [fn_at hA, ← HX2.out] at e2
          have f1 := HLS7.out.frozen H
          have f2 := HLS7.out.frozen A'
          have HLS8 := Lib.hid (HLS7.out.set H (.int .i64 r))
          have e3 := HLS8.out.cell A'
          rw [List.getElem?_set_ne (by omega), fn_at hA, ← HX2.out] at e3
          have f3 := HLS8.out.frozen A'
          clear hb7 K7 g1 g2 g2' g3 g4 g4' g6 g7 d1 d2 c0 c1 c2 HMT HLS HHO
          go_region
          go_wp2_with fail
          clear e1 e2 e3 f1 f2 f3 q0 q1 q2
          have K8 : Keep w3 ((w7.setCell ⟨w3.heap.size + 1, H, none⟩ (.int .i64 r)).setCell ⟨w3.heap.size + 1, A', none⟩ (.int .i64 r)).drew [(wr.heap.size, 0, .int .i64 r), (wr.heap.size, 1, .int .i64 H), (wr.heap.size, 2, .int .i64 A')] :=
            ((HK7.out.set (by omega) (by simp; omega) _ _).set (by omega) (by simp; omega) _ _).drew
          have hmt8 : Blk ((w7.setCell ⟨w3.heap.size + 1, H, none⟩ (.int .i64 r)).setCell ⟨w3.heap.size + 1, A', none⟩ (.int .i64 r)).drew w3.heap.size 46 (fn 400 fun t => .int .i64 (metL (l.take k) (t / 20 : Nat) (t % 20 : Nat))) :=
            (HMT7.out.other (by omega) _ _).other (by omega) _ _
          have hls8 : Blk ((w7.setCell ⟨w3.heap.size + 1, H, none⟩ (.int .i64 r)).setCell ⟨w3.heap.size + 1, A', none⟩ (.int .i64 r)).drew (w3.heap.size + 1) 3 (fn N fun t => .int .i64 (lastL (l.take (k + 1)) t)) := by
            have := HLS8.out.set A' (.int .i64 r)
            rw [fn_set (f' := fun t => .int .i64 (if t = H then r else lastL (l.take k) t)) (fun t _ => by by_cases e : t = H <;> simp [e]), fn_set (f' := fun t => .int .i64 (lastL (l.take (k + 1)) t))] at this
            · exact this
            · intro t _
              show Value.int .i64 (lastL (l.take (k + 1)) t) = _
              rw [last_next HF.out]
              unfold playsL
              by_cases e : t = A'
              · subst e; simp
              · rw [if_neg e]
                have e9 : ((A' : Int) == (t : Int)) = false := by simp; omega
                by_cases e2 : t = H
                · subst e2; simp
                · have e8 : ((H : Int) == (t : Int)) = false := by simp; omega
                  rw [e8, e9, if_neg e2]; rfl
          have hho8 : Blk ((w7.setCell ⟨w3.heap.size + 1, H, none⟩ (.int .i64 r)).setCell ⟨w3.heap.size + 1, A', none⟩ (.int .i64 r)).drew wa.heap.size 3 (fn N fun t => .int .i64 (homesL (l.take k) t)) :=
            (HHO7.out.other (by omega) _ _).other (by omega) _ _
          generalize ((w7.setCell ⟨w3.heap.size + 1, H, none⟩ (.int .i64 r)).setCell ⟨w3.heap.size + 1, A', none⟩ (.int .i64 r)).drew = w8 at K8 hmt8 hls8 hho8 ⊢
          have HMT8 := Lib.hid hmt8
          have HLS8' := Lib.hid hls8
          have HHO8 := Lib.hid hho8
          have HK8 := Lib.hid K8
          obtain ⟨mm, hmm⟩ : ∃ mm, mm = metL (l.take k) H A' := ⟨_, rfl⟩
          have hmb := met_le (l.take k) H A'
          rw [← hmm, List.length_take] at hmb
          have hmb1 : 0 ≤ mm := hmb.1
          have hmb2 : mm ≤ 400 := by omega
          have q0 := K8.get (b := wr.heap.size) (o := 0) (v := .int .i64 r) (by simp)
          have q1 := K8.get (b := wr.heap.size) (o := 1) (v := .int .i64 H) (by simp)
          have q2 := K8.get (b := wr.heap.size) (o := 2) (v := .int .i64 A') (by simp)
          have e1 := hmt8.cell (H * 20 + A')
          rw [fn_at (by omega), show (H * 20 + A') / 20 = H by omega, show (H * 20 + A') % 20 = A' by omega, ← hmm] at e1
          have f1 := hmt8.frozen (H * 20 + A')
          have hH20 : H < 20 := by omega
          have hA20 : A' < 20 := by omega
          have HMM := Lib.hid hmm
          clear hmt8 hls8 hho8 K8 hmm hmb HLS8 HLS7 HHO7 HMT7 HK7
          go_region
          clear e1 f1 q0 q1 q2
          have K9 : Keep w3 (w8.setCell ⟨w3.heap.size, H * 20 + A', none⟩ (.int .i64 (mm + 1))).drew [(wr.heap.size, 0, .int .i64 r), (wr.heap.size, 1, .int .i64 H), (wr.heap.size, 2, .int .i64 A')] :=
            (HK8.out.set (by omega) (by simp; omega) _ _).drew
          have hmt9 : Blk (w8.setCell ⟨w3.heap.size, H * 20 + A', none⟩ (.int .i64 (mm + 1))).drew w3.heap.size 46 (fn 400 fun t => .int .i64 (metL (l.take (k + 1)) (t / 20 : Nat) (t % 20 : Nat))) := by
            have := HMT8.out.set (H * 20 + A') (.int .i64 (mm + 1))
            rw [fn_set (f' := fun t => .int .i64 (metL (l.take (k + 1)) (t / 20 : Nat) (t % 20 : Nat)))] at this
            · exact this
            · intro t _
              show Value.int .i64 (metL (l.take (k + 1)) (t / 20 : Nat) (t % 20 : Nat)) = _
              rw [met_next HF.out]
              by_cases e : t = H * 20 + A'
              · rw [if_pos e, show t / 20 = H by omega, show t % 20 = A' by omega, ← HMM.out]; simp
              · rw [if_neg e, if_neg]
                · simp
                · simp only [Bool.and_eq_true, beq_iff_eq]; omega
          have hls9 : Blk (w8.setCell ⟨w3.heap.size, H * 20 + A', none⟩ (.int .i64 (mm + 1))).drew (w3.heap.size + 1) 3 (fn N fun t => .int .i64 (lastL (l.take (k + 1)) t)) := HLS8'.out.other (by omega) _ _
          have hho9 : Blk (w8.setCell ⟨w3.heap.size, H * 20 + A', none⟩ (.int .i64 (mm + 1))).drew wa.heap.size 3 (fn N fun t => .int .i64 (homesL (l.take k) t)) := HHO8.out.other (by omega) _ _
          generalize (w8.setCell ⟨w3.heap.size, H * 20 + A', none⟩ (.int .i64 (mm + 1))).drew = w9 at K9 hmt9 hls9 hho9 ⊢
          have HMT9 := Lib.hid hmt9
          have HLS9 := Lib.hid hls9
          have HHO9 := Lib.hid hho9
          have HK9 := Lib.hid K9
          obtain ⟨ho, hho⟩ : ∃ ho, ho = homesL (l.take k) H := ⟨_, rfl⟩
          have hob := homes_le (l.take k) H
          rw [← hho, List.length_take] at hob
          have hob1 : 0 ≤ ho := hob.1
          have hob2 : ho ≤ 400 := by omega
          have q0 := K9.get (b := wr.heap.size) (o := 0) (v := .int .i64 r) (by simp)
          have q1 := K9.get (b := wr.heap.size) (o := 1) (v := .int .i64 H) (by simp)
          have q2 := K9.get (b := wr.heap.size) (o := 2) (v := .int .i64 A') (by simp)
          have e1 := hho9.cell H
          rw [fn_at hH, ← hho] at e1
          have f1 := hho9.frozen H
          have HHOE := Lib.hid hho
          clear hmt9 hls9 hho9 K9 hho hob HMT8 HLS8' HHO8 HK8 HMM hmb1 hmb2
          go_wp2
          go_roundw
          case rel =>
            refine ⟨k + 1, hkl, by simp, (HK9.out.set (by omega) (by simp; omega) _ _).1, HMT9.out.other (by omega) _ _, HLS9.out.other (by omega) _ _, ?_⟩
            have := HHO9.out.set H (.int .i64 (ho + 1))
            rw [fn_set (f' := fun t => .int .i64 (homesL (l.take (k + 1)) t))] at this
            · exact this
            · intro t _
              show Value.int .i64 (homesL (l.take (k + 1)) t) = _
              rw [homes_next HF.out]
              by_cases e : t = H
              · rw [if_pos e, e, ← HHOE.out]; simp
              · rw [if_neg e, if_neg]
                · simp
                · simp only [beq_iff_eq]; omega
          case measure => simp [intOf]; omega
        · have hkk : l.take k = l := List.take_of_length_le (by omega)
          rw [hkk] at HMT HLS HHO
          obtain ⟨wb, rfl⟩ : ∃ wb : World, wb = wr := ⟨_, rfl⟩
          have e0 := HHO.out.cell 0
          rw [fn_at (by omega)] at e0
          have e0 : wb.cell? ⟨wa.heap.size, 0, none⟩ = some (.int .i64 (homesL l 0)) := e0
          have HPR := Lib.hid HM.out.pair
          have HBL := Lib.hid HM.out.bal
          have HEV := Lib.hid HM.out.even
          have hll : l.length ≤ 9223372036854775807 := by omega
          clear hkk FZ1 FZ2 FZ3 HM
          cases d
          all_goals
            go_wp2_with fail
            go_quiet (fail)
            have hb7 : Below wb.heap.size wb (wb.drewN nq) := cur_drew _ nq
            clear e0
            go_wp2
            go_loopw [14, 15, 142] (FI wb N l) (fun _ _ i _ => N - (intOf i).toNat)
            case atStart => exact ⟨0, by omega, rfl, rfl, rfl, hb7⟩
            case round =>
              obtain ⟨t, ht, rfl, rfl, rfl, hb8⟩ := hrel
              have HMT8 := Lib.hid (HMT.out.to hb8)
              have HHO8 := Lib.hid (HHO.out.to hb8)
              have hb9 : Below w3.heap.size w3 wr := hb6.trans (hb8.mono (by omega))
              obtain ⟨lo, hlo⟩ : ∃ lo, lo = leastL l t := ⟨_, rfl⟩
              obtain ⟨hi, hhi⟩ : ∃ hi, hi = mostL l t := ⟨_, rfl⟩
              have HLO := Lib.hid hlo
              have HHI := Lib.hid hhi
              simp only [← hlo, ← hhi]
              clear hlo hhi
              by_cases htn : t < N
              · have e1 := HHO8.out.cell t
                rw [fn_at htn] at e1
                obtain ⟨ho, hho⟩ : ∃ ho, ho = homesL l t := ⟨_, rfl⟩
                have HL1 := Lib.hid (least_next l t)
                have HL2 := Lib.hid (most_next l t)
                rw [← hho] at e1
                have HHE := Lib.hid hho
                clear hho
                obtain ⟨wo, rfl⟩ : ∃ wo : World, wo = wr := ⟨_, rfl⟩
                go_wp2_with fail
                go_quiet (fail)
                all_goals go_wp2_with fail
                all_goals
                  have hb10 : Below wo.heap.size wo (wo.drewN nq) := cur_drew _ nq
                  have HMTa := Lib.hid (HMT8.out.to hb10)
                  have HHOa := Lib.hid (HHO8.out.to hb10)
                  have HBA := Lib.hid (cur_step1 hb8 hb10)
                  have hR10 := HR3.out.to (cur_step1 hb9 hb10)
                  have HR10 := Lib.hid hR10
                  have e1 : (wo.drewN nq).cell? ⟨wa.heap.size, t, none⟩ = some (.int .i64 ho) := e1
                  have hltA : wa.heap.size < (wo.drewN nq).heap.size := HHOa.out.lt
                  generalize wo.drewN nq = wc at hb10 HMTa HHOa HBA hR10 HR10 e1 hltA ⊢
                  have K3 : Keep wc wc [] := Keep.start (Below.refl _ _) (by simp)
                  have k0 : ∀ s : Wd wc [], s.w.cell? ⟨wa.heap.size, t, none⟩ = some (.int .i64 ho) := fun s => (s.h.1.cell (p := ⟨wa.heap.size, t, none⟩) hltA).trans e1
                  have hex : ∀ s : Wd wc [], ∃ s' : Wd wc [], s.w = s'.w := fun s => ⟨s, rfl⟩
                  haveI hne : Nonempty (Wd wc []) := ⟨⟨_, K3⟩⟩
                  clear hR10 hb10 e1
                  refine wp_region_wd wc [] (by kernel_rfl) (by kernel_rfl) K3.drew ?_
                  repeat (go_big_quiet_step ((go_at_call 17; refine (homes_v A c l t ho _ hll (HR10.out.to (Wd.h _).1) HHE.out).mono ?_; rintro e w4 ⟨rfl, hb4⟩; exact ⟨rfl, ⟨w4, (Wd.h _).to hb4⟩, rfl⟩)))
                  refine wpQuiet_nil ?_
                  rintro w10 ⟨s4, hs4⟩
                  have hb11 : Below wc.heap.size wc w10 := by rw [hs4]; exact s4.h.1
                  have HMTb := Lib.hid (HMTa.out.to hb11)
                  have HBB := Lib.hid (cur_step1 HBA.out hb11)
                  clear hs4 s4 k0 hex hne K3 hltA
                  go_wp2
                  go_loopw [166] (FJ w10 t) (fun i _ => t - (intOf i).toNat)
                  case atStart => exact ⟨0, by omega, rfl, Below.refl _ _⟩
                  case round =>
                    obtain ⟨j, hj, rfl, hb12⟩ := hrel
                    have HMTc := Lib.hid (HMTb.out.to hb12)
                    by_cases hjt : j < t
                    · have e1 := HMTc.out.cell (t * 20 + j)
                      have e2 := HMTc.out.cell (j * 20 + t)
                      rw [fn_at (by omega), show (t * 20 + j) / 20 = t by omega, show (t * 20 + j) % 20 = j by omega] at e1
                      rw [fn_at (by omega), show (j * 20 + t) / 20 = j by omega, show (j * 20 + t) % 20 = t by omega] at e2
                      have hp := HPR.out t j htn hjt
                      have b1 := met_le l t j
                      have b2 := met_le l j t
                      generalize metL l (t : Int) (j : Int) = m1 at e1 hp b1
                      generalize metL l (j : Int) (t : Int) = m2 at e2 hp b2
                      have b3 : 0 ≤ m1 ∧ m1 ≤ 400 := by omega
                      have b4 : 0 ≤ m2 ∧ m2 ≤ 400 := by omega
                      clear b1 b2
                      have ht20 : t < 20 := by omega
                      have hj20 : j < 20 := by omega
                      simp only [if_true, Bool.false_eq_true, if_false] at hp
                      first
                        | (obtain ⟨rfl, rfl⟩ := hp)
                        | (have g : (m1 + m2 != 1) = false := (by simp; omega))
                      go_wp2_with fail
                      go_quiet (fail)
                      go_wp2
                      go_roundw
                      case rel => exact ⟨j + 1, hjt, by simp, cur_step1 hb12 (cur_drew _ _)⟩
                      case measure => simp [intOf]; omega
                    · go_wp2
                      go_roundw
                      case rel =>
                        have h1 := HL1.out
                        have h2 := HL2.out
                        rw [← HLO.out, ← HHE.out] at h1
                        rw [← HHI.out, ← HHE.out] at h2
                        exact ⟨t + 1, htn, by simp, val_int (by rw [h1]; omega), val_int (by rw [h2]; omega), cur_step1 HBB.out hb12⟩
                      case measure => simp [intOf]; omega
              · obtain rfl : t = N := by omega
                have r1 := least_ge (l := l) (m := 0) (k := t) (by omega) (fun i _ => (homes_le l i).1)
                have r2 := most_le (l := l) (m := 400) (k := t) (by omega) (fun i _ => by have := (homes_le l i).2; omega)
                have r3 := least_le_most l t
                have r4 := HBL.out
                have r5 := HEV.out
                rw [← HLO.out] at r1 r3 r4 r5
                rw [← HHI.out] at r2 r3 r4 r5
                have r6 : decide (hi - lo ≤ 1) = true := by simpa using r4
                first
                  | (have r7 : (hi == lo) = true := beq_iff_eq.2 (r5 (by first | trivial | rfl)); clear r5; go_wp2; go_ret; exact ⟨by simp [*], hb0.trans (hb9.mono hb0.size)⟩)
                  | (clear r5; go_wp2; go_ret; exact ⟨by simp [*], hb0.trans (hb9.mono hb0.size)⟩)
end Go.Proofs.Ythoocjcbpjdjhaa
