/-
  Chapter 49: Bye of the program.
-/
import Derived.Test.YthoocjcbpjdjhaaEarly49
import Derived.Test.YthoocjcbpjdjhaaApp
import Derived.RegionTactic
namespace Go.Proofs.Ythoocjcbpjdjhaa
open Go.RowKit

def busyL (l : List Fx) (r t : Int) : Bool := l.any fun f => f.r == r && playsL f t
def byeL (l : List Fx) (n r : Int) : Int := if n < 2 ∨ 20 < n then -1 else match (List.range n.toNat).find? (fun t : Nat => !busyL l r t) with | some t => t | none => -1
theorem bye_bad {l : List Fx} {n r : Int} (h : n < 2 ∨ 20 < n) : byeL l n r = -1 := by unfold byeL; rw [if_pos h]
theorem bye_hit {l : List Fx} {N k : Nat} {r : Int} (h1 : 2 ≤ N) (h2 : N ≤ 20) (hk : k < N) (hb : ∀ t : Nat, t < k → busyL l r t = true) (h : busyL l r k = false) : byeL l N r = k := by
  unfold byeL
  rw [if_neg (by omega)]
  have : (List.range (N : Int).toNat).find? (fun t : Nat => !busyL l r t) = some k := by
    rw [List.find?_range_eq_some]
    simp [h]
    exact ⟨hk, fun t ht => hb t ht⟩
  rw [this]
theorem bye_none {l : List Fx} {N : Nat} {r : Int} (h1 : 2 ≤ N) (h2 : N ≤ 20) (hb : ∀ t : Nat, t < N → busyL l r t = true) : byeL l N r = -1 := by
  unfold byeL
  rw [if_neg (by omega)]
  have : (List.range (N : Int).toNat).find? (fun t : Nat => !busyL l r t) = none := by
    rw [List.find?_eq_none]
    intro t ht
    simp at ht
    simp [hb t ht]
  rw [this]

theorem wpList_makeB {P : Program} (w : World) {ops : Array Oper} {rest : List Oper} {o : Oper} {a : Act} {Q : Exit → Act → World → Prop}
    (hg : o.guard = none) (l c : Operand) (t : TypeId) (hop : o.op = Op.makeSlice t l c) (base : Nat) (e : TypeId) (z : Value) (bytes : Nat) (h1 : P.underlying t = some (.slice e)) (hinfo : (P.info? e).map (fun i => (i.zero, i.size, i.bytes)) = some (some z, 1, bytes)) (hz : z.cells = #[z])
    (kl kc : IntKind) (n : Nat) (hl : a.eval l = .int kl n) (hc : a.eval c = .int kc n) (b2 : bytes * n ≤ 281474976710656) (b3 : n ≤ maxLen) (b4 : base ≤ w.heap.size)
    (hK : ∀ w', w'.ownsRow base e 1 (.slice (some ⟨w.heap.size, 0, none⟩) n n) n (List.replicate n z) → w.heap.size < w'.heap.size → Below w.heap.size w w' → wpList P ops Q rest (a.put o.dst (.slice (some ⟨w.heap.size, 0, none⟩) n n)) w') :
    wpList P ops Q (o :: rest) a w := by
  obtain ⟨i, hi, h0, hs, hb⟩ := info_parts hinfo
  refine wpList_make_full (P := P) w hg l c t hop base e i z 1 h1 hi h0 hs kl kc n n n hl hc rfl rfl (by rw [hb]; exact b2) b3 b4 fun w' ho hgr => ?_
  rw [hz, Nat.mul_one, toList_madeCells_one] at ho
  refine hK w' ho ?_ ((Below.refl _ _).grown hgr (Nat.le_refl _) (by simp))
  rcases ho.2 with ⟨h', _⟩ | ⟨g', cap', cur, h', _, hg2, _⟩
  · simp at h'
  · injection h' with h' _ _
    injection h' with h'
    injection h' with h' _ _
    subst h'
    exact (Array.getElem?_eq_some_iff.1 hg2).1

def bools (N : Nat) (b : Nat → Bool) : List Value := (List.range N).map fun t => .bool (b t)
theorem bools_at {N t : Nat} {b : Nat → Bool} (h : t < N) : (bools N b)[t]? = some (.bool (b t)) := by unfold bools; simp [h]
theorem bools_eq {N : Nat} {b b' : Nat → Bool} (h : ∀ t, t < N → b t = b' t) : bools N b = bools N b' := by
  unfold bools
  exact List.map_congr_left fun t ht => by rw [h t (List.mem_range.1 ht)]
theorem bools_set {N t0 : Nat} {b b' : Nat → Bool} (h : ∀ t, t < N → b' t = (b t || t == t0)) : (bools N b).set t0 (.bool true) = bools N b' := by
  apply List.ext_getElem?
  intro t
  rw [List.getElem?_set]
  by_cases ht : t < N
  · rw [bools_at ht, bools_at ht, h t ht]
    have hl : (bools N b).length = N := by unfold bools; simp
    rw [hl]
    by_cases e : t0 = t
    · subst e; simp [ht]
    · have e2 : (t == t0) = false := by simpa using fun h => e h.symm
      rw [if_neg e, e2, Bool.or_false]
  · have hl : ∀ b : Nat → Bool, (bools N b)[t]? = none := by intro b; unfold bools; simp; omega
    rw [hl, hl]
    have hl2 : (bools N b).length = N := by unfold bools; simp
    rw [hl2]
    by_cases e : t0 = t <;> simp [e, ht]
theorem bools_rep (N : Nat) : List.replicate N (Value.bool false) = bools N (fun _ => false) := by
  unfold bools
  apply List.ext_getElem?
  intro t
  by_cases ht : t < N <;> simp [ht]
def ByeI (w : World) (N : Nat) (l : List Fx) (r : Int) (i : Value) (wr : World) : Prop :=
  ∃ k : Nat, k ≤ l.length ∧ i = .int .i64 k ∧ Below w.heap.size w wr ∧ w.heap.size < wr.heap.size ∧ wr.ownsRow w.heap.size 4 1 (.slice (some ⟨w.heap.size, 0, none⟩) N N) N (bools N fun t => busyL (l.take k) r t)
def ByeJ (w : World) (N : Nat) (l : List Fx) (r : Int) (k : Nat) (h a : Int) (i : Value) (wr : World) : Prop :=
  ∃ j : Nat, j ≤ 2 ∧ i = .int .i64 j ∧ Below w.heap.size w wr ∧ w.heap.size < wr.heap.size ∧ wr.ownsRow w.heap.size 4 1 (.slice (some ⟨w.heap.size, 0, none⟩) N N) N (bools N fun t => busyL (l.take k) r t || (decide (1 ≤ j) && h == t) || (decide (2 ≤ j) && a == t))
def ByeT (w : World) (N : Nat) (l : List Fx) (r : Int) (i : Value) (wr : World) : Prop :=
  ∃ t : Nat, t ≤ N ∧ i = .int .i64 t ∧ Below w.heap.size w wr ∧ (∀ s : Nat, s < t → busyL l r s = true) ∧ wr.ownsRow w.heap.size 4 1 (.slice (some ⟨w.heap.size, 0, none⟩) N N) N (bools N fun t => busyL l r t)
theorem busy_next {l : List Fx} {k : Nat} {f : Fx} {r t : Int} (h : l[k]? = some f) : busyL (l.take (k + 1)) r t = (busyL (l.take k) r t || (f.r == r && playsL f t)) := by
  unfold busyL
  rw [take_next h]
  simp

set_option maxRecDepth 100000 in
set_option maxHeartbeats 1000000 in
theorem bye_f (A : Option Addr) (c : Nat) (l : List Fx) (n r : Int) (w : World) (hl : l.length ≤ 1000) (hr : Rd fxE 3 w w.heap.size A l) :
    Calls Try.prog 19 #[.slice A l.length c, .int .i64 n, .int .i64 r] w fun e w' => e = .returned (.int .i64 (byeL l n r)) ∧ Below w.heap.size w w' := by
  by_cases h1 : n < 2 ∨ 20 < n
  · have H := Lib.hid (bye_bad (l := l) (r := r) h1)
    by_cases h2 : n < 2
    · clear h1
      go_enter Try.func19, Try.ntmps19
      go_wp2
      go_ret
      exact ⟨ret_int H.out.symm, Below.refl _ _⟩
    · have h3 : 20 < n := by omega
      clear h1
      go_enter Try.func19, Try.ntmps19
      go_wp2
      go_ret
      exact ⟨ret_int H.out.symm, Below.refl _ _⟩
  obtain ⟨N, rfl⟩ : ∃ N : Nat, n = N := ⟨n.toNat, by omega⟩
  have h2 : 2 ≤ N := by omega
  have h3 : N ≤ 20 := by omega
  clear h1
  go_enter Try.func19, Try.ntmps19
  go_wp2_with (refine wpList_makeB _ rfl _ _ _ rfl w.heap.size 4 (.bool false) 1 (by kernel_rfl) (by kernel_rfl) (by kernel_rfl) .i64 .i64 N (by rfl) (by rfl) (by omega) (by unfold maxLen; omega) (Nat.le_refl _) ?_; intro w1 ho hlt1 hb1)
  rw [bools_rep] at ho
  go_loopw [24] (ByeI w N l r) (fun i _ => l.length - (intOf i).toNat)
  case atStart => exact ⟨0, Nat.zero_le _, rfl, hb1, hlt1, ho⟩
  case round =>
    obtain ⟨k, hk, rfl, hb, hlt, hown⟩ := hrel
    by_cases hkl : k < l.length
    · obtain ⟨f, hf⟩ : ∃ f, l[k]? = some f := ⟨_, List.getElem?_eq_getElem hkl⟩
      obtain ⟨b, off, rfl, hbb, c0, c1, c2⟩ := rdFx hr hb hf
      obtain ⟨fr, fh, fa⟩ := f
      have HF := Lib.hid hf
      have HO := Lib.hid hown
      simp only [] at c0 c1 c2
      clear hf hown
      have zb : b < wr.heap.size := by omega
      by_cases e1 : fr = r
      · have e1' : (fr != r) = false := by simpa using e1
        have HE := Lib.hid (show (fr == r) = true by simpa using e1)
        clear e1
        go_wp2
        go_loopw [37] (ByeJ w N l r k fh fa) (fun i _ => 2 - (intOf i).toNat)
        case atStart =>
          refine ⟨0, by omega, rfl, hb.alloc (by omega) _, by simp; omega, ?_⟩
          rw [bools_eq (b' := fun t => busyL (l.take k) r t) (fun t _ => by simp)]
          exact own_below HO.out (cur_new wr _) (Nat.le_refl _)
        case round =>
          obtain ⟨j, hj, rfl, hb6, hlt6, hown6⟩ := hrel
          have HO6 := Lib.hid hown6
          clear hown6
          by_cases hj2 : j < 2
          · obtain ⟨x, hx⟩ : ∃ x, x = if j = 0 then fh else fa := ⟨_, rfl⟩
            have hB : ∀ t : Nat, (busyL (l.take k) r t || (decide (1 ≤ j + 1) && fh == t) || (decide (2 ≤ j + 1) && fa == t)) = ((busyL (l.take k) r t || (decide (1 ≤ j) && fh == t) || (decide (2 ≤ j) && fa == t)) || x == t) := by
              intro t
              have hj01 : j = 0 ∨ j = 1 := by omega
              rcases hj01 with rfl | rfl <;> simp [hx, Bool.or_assoc]
            have HB := Lib.hid hB
            have HX := Lib.hid hx
            clear hx hB
            obtain ⟨wo, rfl⟩ : ∃ wo : World, wo = wr := ⟨_, rfl⟩
            have hidx : ∀ w', (Instr.index 59 (.agg #[.int .i64 fh, .int .i64 fa]) (.int .i64 j)).run Try.prog w' = .ok (.int .i64 x) w' := by
              have hj01 : j = 0 ∨ j = 1 := by omega
              intro w'
              rw [HX.out]
              rcases hj01 with rfl | rfl <;> kernel_rfl
            by_cases g1 : 0 ≤ x
            · by_cases g2 : x < N
              · obtain ⟨X, rfl⟩ : ∃ X : Nat, x = X := ⟨x.toNat, by omega⟩
                have f1 : decide ((0:Int) ≤ X) = true := by simp
                have f2 : decide (X < N) = true := by simp; omega
                have g3 : X < N := by omega
                have hcell := HO6.out.cellAt X (by omega)
                rw [bools_at g3] at hcell
                have hfz := HO6.out.frozenAt X
                go_wp2
                go_roundw
                case rel =>
                  have hst := HO6.out.stored X (.bool true)
                  refine ⟨j + 1, by omega, by simp, hb6.grown hst.2 (by omega) (by intro k hk; injection hk with hk; omega), by simpa using hlt6, ?_⟩
                  rw [← bools_set (t0 := X) (b := fun t => busyL (l.take k) r t || (decide (1 ≤ j) && fh == t) || (decide (2 ≤ j) && fa == t))]
                  · exact hst.1
                  · intro t _
                    show (busyL (l.take k) r t || (decide (1 ≤ j + 1) && fh == t) || (decide (2 ≤ j + 1) && fa == t)) = _
                    rw [HB.out]
                    congr 1
                    rw [Bool.eq_iff_iff]
                    simp
                    omega
                case measure => simp [intOf]; omega
              · have f2 : decide (x < N) = false := by simp; omega
                have f1 : decide (0 ≤ x) = true := by simp; omega
                go_wp2
                go_roundw
                case rel =>
                  refine ⟨j + 1, by omega, by simp, hb6, hlt6, ?_⟩
                  rw [bools_eq (b' := fun t => busyL (l.take k) r t || (decide (1 ≤ j) && fh == t) || (decide (2 ≤ j) && fa == t))]
                  · exact HO6.out
                  · intro t ht
                    show (busyL (l.take k) r t || (decide (1 ≤ j + 1) && fh == t) || (decide (2 ≤ j + 1) && fa == t)) = _
                    rw [HB.out, show (x == (t : Int)) = false by simp; omega, Bool.or_false]
                case measure => simp [intOf]; omega
            · have f1 : decide (0 ≤ x) = false := by simp; omega
              go_wp2
              go_roundw
              case rel =>
                refine ⟨j + 1, by omega, by simp, hb6, hlt6, ?_⟩
                rw [bools_eq (b' := fun t => busyL (l.take k) r t || (decide (1 ≤ j) && fh == t) || (decide (2 ≤ j) && fa == t))]
                · exact HO6.out
                · intro t ht
                  show (busyL (l.take k) r t || (decide (1 ≤ j + 1) && fh == t) || (decide (2 ≤ j + 1) && fa == t)) = _
                  rw [HB.out, show (x == (t : Int)) = false by simp; omega, Bool.or_false]
              case measure => simp [intOf]; omega
          · obtain rfl : j = 2 := by omega
            go_wp2
            go_roundw
            case rel =>
              refine ⟨k + 1, hkl, by simp, hb6, hlt6, ?_⟩
              rw [bools_eq (b' := fun t => busyL (l.take k) r t || (decide (1 ≤ 2) && fh == t) || (decide (2 ≤ 2) && fa == t))]
              · exact HO6.out
              · intro t ht
                show busyL (l.take (k + 1)) r t = _
                rw [busy_next HF.out, HE.out]
                simp [playsL, Bool.or_assoc]
            case measure => simp [intOf]; omega
      · have e1' : (fr != r) = true := by simpa using e1
        have HE := Lib.hid (show (fr == r) = false by simpa using e1)
        clear e1
        go_wp2
        go_roundw
        case rel =>
          refine ⟨k + 1, hkl, by simp, hb.alloc (by omega) _, by simp; omega, ?_⟩
          rw [bools_eq (b := fun t => busyL (l.take (k + 1)) r t) (b' := fun t => busyL (l.take k) r t) (fun t _ => by show busyL _ _ _ = _; rw [busy_next HF.out]; rw [HE.out]; simp)]
          exact own_below HO.out (cur_new wr _) (Nat.le_refl _)
        case measure => simp [intOf]; omega
    · have hkk : l.take k = l := List.take_of_length_le (by omega)
      rw [hkk] at hown
      have HO := Lib.hid hown
      clear hown hkk
      go_wp2
      go_loopw [54] (ByeT w N l r) (fun i _ => N - (intOf i).toNat)
      case atStart => exact ⟨0, by omega, rfl, hb, by omega, HO.out⟩
      case round =>
        obtain ⟨t, ht, rfl, hb6, hall, hown6⟩ := hrel
        have HA := Lib.hid hall
        have HO6 := Lib.hid hown6
        clear hall hown6
        by_cases htn : t < N
        · have hcell := HO6.out.cellAt t (by omega)
          rw [bools_at htn] at hcell
          by_cases hb1 : busyL l r t = true
          · have HB := Lib.hid hb1
            rw [hb1] at hcell
            clear hb1
            go_wp2
            go_roundw
            case rel =>
              refine ⟨t + 1, htn, by simp, hb6, ?_, HO6.out⟩
              intro s hs
              by_cases e : s = t
              · rw [e]; exact HB.out
              · exact HA.out s (by omega)
            case measure => simp [intOf]; omega
          · have hb1 : busyL l r t = false := by simpa using hb1
            have HALL := Lib.hid (bye_hit h2 h3 htn HA.out hb1)
            rw [hb1] at hcell
            clear hb1
            go_wp2
            go_ret
            exact ⟨ret_int HALL.out.symm, hb6⟩
        · have HALL := Lib.hid (bye_none (l := l) (r := r) h2 h3 (by intro s hs; exact HA.out s (by omega)))
          go_wp2
          go_ret
          exact ⟨ret_int HALL.out.symm, hb6⟩
end Go.Proofs.Ythoocjcbpjdjhaa
