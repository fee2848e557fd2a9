/-
  Texts of one chapter, put together (a claim holds at most sixty files).
-/
import Derived.RangeFuncWrites
import Derived.RangeFuncBox
import Derived.Test.YtdbiihfoafoljaaGreatDoorLibE
import Derived.Test.YtdbiihfoafoljaaGreatDoorLinP
import Derived.TacticsInMore
import Derived.LoopIn
import Derived.OwnWalkIn
import Derived.Shelf.RegionOpen
import Derived.Test.YtdbiihfoafoljaaGreatDoorApp
import Derived.RangeFuncCalls
import Derived.OrdersIn
import Derived.Test.YtdbiihfoafoljaaGreatDoorRtA58
import Derived.Test.YtdbiihfoafoljaaGreatDoorEnQ
import Derived.RangeFuncNested
import Derived.Test.YtdbiihfoafoljaaGreatDoorNumE
import Derived.Test.YtdbiihfoafoljaaGreatDoorTxA58
import Derived.RangeFuncLeaves
set_option linter.unusedSimpArgs false
set_option linter.unusedVariables false
namespace Go.Proofs.YtdbiihfoafoljaaGreatDoor
section
/-! A range over a function whose iterator keeps what is left of its string in a box of its own: the law for the loop. -/
open Go.RowKit
variable {F : Fence} {n : Nat} {P : Program}
/-- Abides new blocks and a store into the box. -/
def AbBox {β : Type} (bx : Nat) (J : β → World → Prop) : Prop := (∀ s W o, J s W → J s (W.alloc o)) ∧ (∀ s W v, J s W → J s (W.setCell ⟨bx, 0, none⟩ v)) ∧ ∀ s W, J s W → J s W.drew
/-- The iterator's contract. -/
def SeqBox {α : Type} (F : Fence) (n : Nat) (P : Program) (g : Nat) (lb : Array Value) (encs : α → Array Value) (S Sp : List α → Prop) (N : Nat) (bx : Nat) (t : TypeId) (v0 : Value) : Prop :=
  ∀ (l : Nat) (J Jx : List α → World → Prop) (W : World), Boxed W bx t v0 → AbBox bx J → AbBox bx Jx →
    (∀ pre x W1, J pre W1 → pre.length < N → YieldAt F (n - 1) P l (encs x) W1 fun e W' =>
      (e = .returned (.bool true) ∧ J (pre ++ [x]) W' ∧ W'.heap[bx]? = W1.heap[bx]?) ∨ (e = .returned (.bool false) ∧ Jx (pre ++ [x]) W')) →
    J [] W →
    CallsIn F n P g (#[.func (.yield l) #[] #[]] ++ lb) W fun e W' => (∃ v, e = .returned v) ∧ ((∃ xs, S xs ∧ J xs W') ∨ (∃ pre, Sp pre ∧ Jx pre W'))
/-- How the body of a round may be left. -/
def postBox {α : Type} (B bx : Nat) (I : List α → World → Prop) (Ix : Code → List α → World → Prop) (xs : List α) (W : World) : Exit → Act → World → Prop
  | .normal, _, W' => KeepsFrom B W W' ∧ W'.heap[bx]? = W.heap[bx]? ∧ I xs W'
  | .ret, _, W' => KeepsFrom B W W' ∧ Ix .ret xs W'
  | .exit id, _, W' => KeepsFrom B W W' ∧ Ix (.exit id) xs W'
  | .goto t, _, W' => KeepsFrom B W W' ∧ Ix (.goto t) xs W'
  | .panic _, _, _ => False
  | .outgrown, _, _ => False
theorem wpIn_rangeFunc_box {α : Type} {g : Operand} {ps : Array Tmp} {assign body : Code} {Q : Exit → Act → World → Prop} {a : Act} {w : World}
    (hro : F.round = none) (h1 : 1 ≤ n) {gf : Nat} {lb : Array Value} (hg : a.eval g = .func (.func gf) #[] lb) (hFg : F.fn gf) (eg : ∀ args w, (callFunc gf args).run P w = .ok (.enter gf args) w)
    {encs : α → Array Value} {S Sp : List α → Prop} {N bx : Nat} {t : TypeId} {v0 : Value} (hseq : SeqBox F (n - 1) P gf lb encs S Sp N bx t v0) (hbx : Boxed w bx t v0)
    (hps : ∀ x, (encs x).size = ps.size)
    (I : List α → World → Prop) (Ix : Code → List α → World → Prop) (hI : OwnFrom w.heap.size I) (hIx : ∀ c, OwnFrom w.heap.size (Ix c))
    (hIb : ∀ s W v, I s W → I s (W.setCell ⟨bx, 0, none⟩ v)) (hIxb : ∀ c s W v, Ix c s W → Ix c s (W.setCell ⟨bx, 0, none⟩ v)) (h0 : I [] w) (a₁ : α → Act)
    (hassign : ∀ (l : Nat) (x : α) (W : World) (K : Act → World → Prop), K (a₁ x) W →
      assign.wpIn (F.inRound l) (n - 1 - 1) P (Exit.then K (fun _ _ _ => False)) { tmps := (ps.zip (encs x)).foldl (fun t (p, v) => t.setIfInBounds p v) a.tmps, defers := [] } W)
    (hbody : ∀ (l : Nat) (pre : List α) (x : α) (W : World), w.heap.size ≤ W.heap.size → I pre W → pre.length < N → body.wpIn (F.inRound l) (n - 1 - 1) P (postBox w.heap.size bx I Ix (pre ++ [x]) W) (a₁ x) W)
    (hdone : ∀ (D : Nat) (xs : List α) (W : World), w.heap.size ≤ D → S xs → I xs W → W.heap[D]? = some (.deferred (some [])) → Q .normal { a with defers := { target := .collected D, args := #[] } :: a.defers } W)
    (hstop : ∀ (D : Nat) (c : Code) (pre : List α) (W : World), w.heap.size ≤ D → Sp pre → Ix c pre W → W.heap[D]? = some (.deferred (some [])) → c.wpIn F n P Q { a with defers := { target := .collected D, args := #[] } :: a.defers } W) :
    (Code.rangeFunc g ps assign body).wpIn F n P Q a w := by
  have hbl := hbx.lt
  refine wpIn_rangeFunc ?_
  intro fn hfn
  rw [hro]
  obtain ⟨rec, hrec⟩ : ∃ rec : LoopState → Option Code → Loop, rec = fun st pe => { state := st, pending := pe, fn, tmps := a.tmps, params := ps, assign, body, defers := w.heap.size } := ⟨_, rfl⟩
  obtain ⟨W1, hW1⟩ : ∃ W1, (w.alloc (.deferred (some []))).alloc (.loop (rec .ready none)) = W1 := ⟨_, rfl⟩
  have hL1 : W1.heap[w.heap.size + 1]? = some (.loop (rec .ready none)) := by
    rw [← hW1]; have := World.alloc_heap_new (w.alloc (.deferred (some []))) (.loop (rec .ready none)); rwa [World.size_alloc] at this
  have hK1 : W1.heap[w.heap.size]? = some (.deferred (some [])) := by
    rw [← hW1]; exact (Below.heap_alloc _ _ _ (by simp)).trans (World.alloc_heap_new w _)
  have hI1 : I [] W1 := by rw [← hW1]; exact hI.alloc _ (hI.alloc _ h0)
  have hB1 : Boxed W1 bx t v0 := by rw [← hW1]; exact (hbx.alloc _).alloc _
  refine ⟨w.heap.size + 1, [{ target := .collected w.heap.size, args := #[] }], W1, { target := .fn (.func gf) lb, args := #[.func (.yield (w.heap.size + 1)) #[] #[]] }, W1, gf,
    #[.func (.yield (w.heap.size + 1)) #[] #[]] ++ lb, W1, ?_, ?_, ?_, ?_, fun _ => h1, ?_⟩
  · rw [← hW1, hrec]; exact run_enterLoop_outer _ _ _ _ _
  · simp only [resolve, hg]
    simp [go_sem]
  · intro f' hf'; simp [Target.leads] at hf'; subst hf'; exact hFg
  · simp [invoke, go_sem, eg]
  · have keepA : ∀ {W : World} {k : Nat} {ob : Obj} (o : Obj), W.heap[k]? = some ob → (W.alloc o).heap[k]? = some ob := fun o h => (Below.heap_alloc _ o _ (Array.getElem?_eq_some_iff.1 h).1).trans h
    have keepS : ∀ {W : World} {k : Nat} {ob : Obj} (v : Value), k ≠ bx → W.heap[k]? = some ob → (W.setCell ⟨bx, 0, none⟩ v).heap[k]? = some ob := fun v hk h => (Below.heap_setCell _ _ v _ hk).trans h
    have dr : ∀ {J : List α → World → Prop} {s : List α} {W : World}, OwnFrom w.heap.size J → J s W → J s W.drew := fun hJ h => hJ _ _ _ none h ⟨rfl, rfl, rfl, Nat.le_refl _, fun _ _ _ => rfl⟩ (by simp)
    refine (hseq (w.heap.size + 1)
      (fun pre W => I pre W ∧ W.heap[w.heap.size + 1]? = some (.loop (rec .ready none)) ∧ W.heap[w.heap.size]? = some (.deferred (some [])))
      (fun pre W => ∃ c, Ix c pre W ∧ W.heap[w.heap.size + 1]? = some (.loop (rec .done (some c))) ∧ W.heap[w.heap.size]? = some (.deferred (some [])))
      W1 hB1
      ⟨fun s W o hs => ⟨hI.alloc o hs.1, keepA o hs.2.1, keepA o hs.2.2⟩, fun s W v hs => ⟨hIb s W v hs.1, keepS v (by omega) hs.2.1, keepS v (by omega) hs.2.2⟩, fun s W hs => ⟨dr hI hs.1, hs.2⟩⟩
      ⟨fun s W o ⟨c, hs⟩ => ⟨c, (hIx c).alloc o hs.1, keepA o hs.2.1, keepA o hs.2.2⟩, fun s W v ⟨c, hs⟩ => ⟨c, hIxb c s W v hs.1, keepS v (by omega) hs.2.1, keepS v (by omega) hs.2.2⟩, fun s W ⟨c, hs⟩ => ⟨c, dr (hIx c) hs.1, hs.2⟩⟩
      ?_ ⟨hI1, hL1, hK1⟩).mono ?_
    · -- one round
      rintro pre x W ⟨hi, hl, hk⟩ hlen
      have hlt : w.heap.size + 1 < W.heap.size := (Array.getElem?_eq_some_iff.1 hl).1
      have hy := run_yield (P := P) (args := encs x) hl (by rw [hrec]; exact hps x)
      rw [hrec] at hy
      refine ⟨fn, _, assign, body, hy, roundIn_of_wpIn hfn (hassign _ x W _ ⟨_, run_beginRound hl (by rw [hrec]), ?_⟩)⟩
      have hl2 : (W.putObj (w.heap.size + 1) (.loop { rec .ready none with state := .busy })).heap[w.heap.size + 1]? = some (.loop { rec .ready none with state := .busy }) := World.putObj_heap_same hlt
      have hk2 : (W.putObj (w.heap.size + 1) (.loop { rec .ready none with state := .busy })).heap[w.heap.size]? = some (.deferred (some [])) := (World.putObj_heap_other (by omega)).trans hk
      have hw2 : (W.putObj (w.heap.size + 1) (.loop { rec .ready none with state := .busy })).heap[bx]? = W.heap[bx]? := World.putObj_heap_other (by omega)
      refine wpIn_mono (hbody _ pre x _ (by simp; omega) (hI.putObj _ hi (by omega) hl rfl) hlen) ?_
      have fin : ∀ (jump : Option Code) (W3 : World), KeepsFrom w.heap.size (W.putObj (w.heap.size + 1) (.loop { rec .ready none with state := .busy })) W3 →
          (Instr.endRound (w.heap.size + 1) jump).run P W3 = .ok (.bool jump.isNone) (W3.putObj (w.heap.size + 1) (.loop (rec (if jump.isNone then .ready else .done) jump))) ∧
          W3.heap[w.heap.size + 1]? = some (.loop { rec .ready none with state := .busy }) ∧
          (W3.putObj (w.heap.size + 1) (.loop (rec (if jump.isNone then .ready else .done) jump))).heap[w.heap.size + 1]? = some (.loop (rec (if jump.isNone then .ready else .done) jump)) ∧
          (W3.putObj (w.heap.size + 1) (.loop (rec (if jump.isNone then .ready else .done) jump))).heap[w.heap.size]? = some (.deferred (some [])) := fun jump W3 hk3 => by
        have hl3 := hk3.same _ _ (by omega) hl2 rfl
        have := run_endRound (P := P) jump hl3
        rw [hrec] at this ⊢
        exact ⟨this, by rw [hrec] at hl3; exact hl3, World.putObj_heap_same (Array.getElem?_eq_some_iff.1 hl3).1, (World.putObj_heap_other (by omega)).trans (hk3.same _ _ (Nat.le_refl _) hk2 rfl)⟩
      rintro e a3 W3 hp
      cases e with
      | normal =>
        obtain ⟨hk3, hkp3, hi3⟩ := hp
        obtain ⟨hr, hl3, hl4, hk4⟩ := fin none W3 hk3
        exact ⟨_, _, hr, .inl ⟨rfl, ⟨hI.putObj _ hi3 (by omega) hl3 rfl, hl4, hk4⟩, (World.putObj_heap_other (by omega)).trans (hkp3.trans hw2)⟩⟩
      | ret =>
        obtain ⟨hk3, hi3⟩ := hp
        obtain ⟨hr, hl3, hl4, hk4⟩ := fin (some .ret) W3 hk3
        exact ⟨_, _, hr, .inr ⟨rfl, .ret, (hIx _).putObj _ hi3 (by omega) hl3 rfl, hl4, hk4⟩⟩
      | exit id =>
        obtain ⟨hk3, hi3⟩ := hp
        obtain ⟨hr, hl3, hl4, hk4⟩ := fin (some (.exit id)) W3 hk3
        exact ⟨_, _, hr, .inr ⟨rfl, .exit id, (hIx _).putObj _ hi3 (by omega) hl3 rfl, hl4, hk4⟩⟩
      | goto t =>
        obtain ⟨hk3, hi3⟩ := hp
        obtain ⟨hr, hl3, hl4, hk4⟩ := fin (some (.goto t)) W3 hk3
        exact ⟨_, _, hr, .inr ⟨rfl, .goto t, (hIx _).putObj _ hi3 (by omega) hl3 rfl, hl4, hk4⟩⟩
      | panic ch => exact hp.elim
      | outgrown => exact hp.elim
    · -- behind the iterator
      rintro e W2 ⟨⟨v, rfl⟩, (⟨xs, hS, hi, hl, hk⟩ | ⟨pre, hSp, c, hi, hl, hk⟩)⟩
      · exact ⟨none, _, by have := run_endLoop (P := P) hl (by rw [hrec]; simp); rw [hrec] at this; exact this, hdone _ xs _ (Nat.le_refl _) hS (hI.putObj _ hi (by omega) hl rfl) ((World.putObj_heap_other (by omega)).trans hk)⟩
      · exact ⟨some c, _, by have := run_endLoop (P := P) hl (by rw [hrec]; simp); rw [hrec] at this; exact this, hstop _ c pre _ (Nat.le_refl _) hSp ((hIx c).putObj _ hi (by omega) hl rfl) ((World.putObj_heap_other (by omega)).trans hk)⟩
theorem boxed_drew {w : World} {b : Nat} {t : TypeId} {v : Value} (h : Boxed w b t v) : Boxed w.drew b t v := h
end

section
/-! strings.Lines: the contract of its iterator, which keeps what is left in a box. -/
open Go.RowKit
set_option maxRecDepth 100000
set_option maxHeartbeats 2000000
theorem indexByte_atB (c : UInt8) : ∀ l : List UInt8, Lib.indexByte l c = match atB c l with | some i => (i : Int) | none => -1
  | [] => rfl
  | x :: r => by
    have ih := indexByte_atB c r
    unfold Lib.indexByte atB
    by_cases h : x = c
    · simp [h]
    · rw [if_neg (by simpa using h), if_neg h, ih]
      cases atB c r with
      | none => simp
      | some i => simp <;> omega
theorem Tryz.ib_hit {s : ByteArray} {i : Nat} (h : atB 10 s.data.toList = some i) (w : World) :
    Calls Tryz.prog 55 #[.string s, .int .u8 10] w fun e w' => e = .returned (.int .i64 i) ∧ w = w' :=
  (Tryz.ib_p s 10 w).mono fun _ _ ⟨h1, h2⟩ => ⟨by rw [h1, show ((10 : Int).toNat.toUInt8) = 10 from rfl, indexByte_atB, h], h2⟩
theorem Tryz.ib_miss {s : ByteArray} (h : atB 10 s.data.toList = none) (w : World) :
    Calls Tryz.prog 55 #[.string s, .int .u8 10] w fun e w' => e = .returned (.int .i64 (-1)) ∧ w = w' :=
  (Tryz.ib_p s 10 w).mono fun _ _ ⟨h1, h2⟩ => ⟨by rw [h1, show ((10 : Int).toNat.toUInt8) = 10 from rfl, indexByte_atB, h], h2⟩
def boxLen (bx : Nat) (w : World) : Nat := match w.cell? ⟨bx, 0, none⟩ with
  | some (.string r) => r.size
  | _ => 0
theorem boxLen_eq {bx : Nat} {w : World} {t : TypeId} {r : ByteArray} (h : Boxed w bx t (.string r)) : boxLen bx w = r.size := by
  unfold boxLen; rw [h.cell]
theorem ext_take (s : ByteArray) (k : Nat) : (s.extract 0 k).data.toList = s.data.toList.take k := by
  simp [ByteArray.data_extract, Array.toList_extract, List.extract_eq_take_drop]
theorem ext_drop (s : ByteArray) (k : Nat) : (s.extract k s.size).data.toList = s.data.toList.drop k := by
  simp only [ByteArray.data_extract, Array.toList_extract, List.extract_eq_take_drop]
  exact List.take_of_length_le (by simp)
abbrev Lm := { x : ByteArray // x.size ≤ 10000 }
def lmB (x : Lm) : List UInt8 := x.1.data.toList
theorem Tryz.lines_stops (n : Nat) (hn : 2 ≤ n) (bx : Nat) (s : ByteArray) (hs : s.size ≤ 10000) :
    SeqBox Fence.wide n Tryz.prog 54 #[.pointer (some ⟨bx, 0, none⟩)] (fun x : Lm => #[Value.string x.1]) (fun xs => xs.map lmB = linesC s.data.toList) (fun pre => pre.map lmB <+: linesC s.data.toList) (linesC s.data.toList).length bx 9 (.string s) := by
  intro l J Jx W hbx hJ hJx hY h0
  have hn1 : 1 ≤ n := by omega
  refine callsIn_of_wp Tryz.func54 rfl trivial ?_ rfl
  simp only [Tryz.ntmps54, List.size_toArray, List.length_cons, List.length_nil, Nat.reduceAdd, Nat.reduceSub, Array.replicate_succ, Array.replicate_zero, List.push_toArray, List.append_toArray, List.nil_append, List.cons_append]
  gi_wp2
  gi_loopw [3] (fun _ wr => ∃ (pre : List Lm) (rest : ByteArray), Boxed wr bx 9 (.string rest) ∧ linesC s.data.toList = pre.map lmB ++ linesC rest.data.toList ∧ rest.size ≤ 10000 ∧ J pre wr) (fun _ wr => boxLen bx wr)
  case atStart => exact ⟨[], s, hbx, rfl, hs, h0⟩
  case round =>
    obtain ⟨pre, rest, hb, hx, hsz, hj⟩ := hrel
    have hc := hb.cell
    have hf := hb.frozen
    by_cases h0 : rest.size = 0
    · have hxs : linesC rest.data.toList = [] := by
        have : rest.data.toList = [] := List.eq_nil_of_length_eq_zero (by simpa using h0)
        rw [this, linesC_nil]
      rw [hxs, List.append_nil] at hx
      have HX := Lib.hid hx
      have HY := Lib.hid hY
      clear hx hY hxs
      gi_wp2
      go_end0
      exact ⟨⟨_, rfl⟩, .inl ⟨pre, HX.out.symm, hj⟩⟩
    · have hpos : 0 < rest.size := by omega
      have hlenR : rest.data.toList.length = rest.size := by simp
      cases ha : atB 10 rest.data.toList with
      | none =>
        have hne : rest.data.toList ≠ [] := fun e => by rw [e] at hlenR; simp at hlenR; omega
        have hl := linesC_last ha hne
        rw [hl] at hx
        have hlen : pre.length < (linesC s.data.toList).length := by rw [hx]; simp
        obtain ⟨fn, tmps, assign, body, hy, hR⟩ := hY pre ⟨rest, hsz⟩ (wr.setCell ⟨bx, 0, none⟩ (.string ⟨#[]⟩)) (hJ.2.1 _ _ _ hj) hlen
        have hy' := hy
        dsimp only at hy'
        have HX := Lib.hid hx
        have HY := Lib.hid hY
        have HA := Lib.hid ha
        have HB := Lib.hid (hb.set (.string ⟨#[]⟩))
        clear hx hY hlen hl hne ha hy
        gi_wp2_with (refine ⟨trivial, ?_⟩; gi_at_call 55; refine (callsIn_wide.2 (Tryz.ib_miss HA.out _)).mono ?_; rintro e w' ⟨rfl, rfl⟩)
        refine hR.mono ?_
        rintro e W3 (⟨rfl, hJ3, hk3⟩ | ⟨rfl, hJx3⟩)
        · have hb3 : Boxed W3 bx 9 (.string ⟨#[]⟩) := by show W3.heap[bx]? = _; rw [hk3]; exact HB.out
          gi_wp2
          go_roundw
          case rel => exact ⟨pre ++ [⟨rest, hsz⟩], ⟨#[]⟩, hb3, by rw [HX.out, linesC_nil, List.map_append, List.append_nil]; rfl, by decide, hJ3⟩
          case measure => rw [boxLen_eq hb3, boxLen_eq hb]; exact hpos
        · gi_wp2
          refine bodyPost_ret (results_none rfl _ _ _) rfl ?_
          exact ⟨⟨_, rfl⟩, .inr ⟨pre ++ [⟨rest, hsz⟩], by rw [HX.out, List.map_append]; exact List.prefix_refl _, hJx3⟩⟩
      | some i =>
        have hi := atB_lt ha
        have hl := linesC_cut ha
        rw [hlenR] at hi
        have hi1 : i + 1 ≤ rest.size := hi
        have hlen : pre.length < (linesC s.data.toList).length := by rw [hx, hl]; simp
        have hsz1 : (rest.extract 0 (i + 1)).size ≤ 10000 := by rw [ByteArray.size_extract]; omega
        have hsz2 : (rest.extract (i + 1) rest.size).size ≤ 10000 := by rw [ByteArray.size_extract]; omega
        have hlt2 : (rest.extract (i + 1) rest.size).size < rest.size := by rw [ByteArray.size_extract]; omega
        have w1 : IntKind.i64.wrap ((i : Int) + 1) = ((i + 1 : Nat) : Int) := by rw [IntKind.wrap_i64]; omega
        have HX := Lib.hid hx
        have HL := Lib.hid hl
        have HA := Lib.hid ha
        have HY := Lib.hid hY
        clear hx hl ha hY hlenR
        gi_wp2_with (refine ⟨trivial, ?_⟩; gi_at_call 55; refine (callsIn_wide.2 (Tryz.ib_hit HA.out _)).mono ?_; rintro e w' ⟨rfl, rfl⟩)
        have hmx : Tryz.prog.follows .mixedOrders = true := by kernel_rfl
        gi_region
        have hb2 : Boxed (wr.setCell ⟨bx, 0, none⟩ (.string (rest.extract (i + 1) rest.size))).drew bx 9 (.string (rest.extract (i + 1) rest.size)) := boxed_drew (hb.set _)
        obtain ⟨fn, tmps, assign, body, hy, hR⟩ := HY.out pre ⟨rest.extract 0 (i + 1), hsz1⟩ (wr.setCell ⟨bx, 0, none⟩ (.string (rest.extract (i + 1) rest.size))).drew (hJ.2.2 _ _ (hJ.2.1 _ _ _ hj)) hlen
        have hy' := hy
        dsimp only at hy'
        have HB2 := Lib.hid hb2
        clear hy w1 hi1 hi hb2 hc hf
        gi_wp2
        refine hR.mono ?_
        rintro e W3 (⟨rfl, hJ3, hk3⟩ | ⟨rfl, hJx3⟩)
        · have hb3 : Boxed W3 bx 9 (.string (rest.extract (i + 1) rest.size)) := by show W3.heap[bx]? = _; rw [hk3]; exact HB2.out
          gi_wp2
          go_roundw
          case rel => exact ⟨pre ++ [⟨rest.extract 0 (i + 1), hsz1⟩], rest.extract (i + 1) rest.size, hb3, by rw [HX.out, HL.out, List.map_append, ext_drop, List.append_assoc]; congr 1; show _ = [(rest.extract 0 (i + 1)).data.toList] ++ _; rw [ext_take]; rfl, hsz2, hJ3⟩
          case measure => rw [boxLen_eq hb3, boxLen_eq hb]; exact hlt2
        · gi_wp2
          refine bodyPost_ret (results_none rfl _ _ _) rfl ?_
          refine ⟨⟨_, rfl⟩, .inr ⟨pre ++ [⟨rest.extract 0 (i + 1), hsz1⟩], ?_, hJx3⟩⟩
          rw [HX.out, HL.out, List.map_append]
          refine (List.prefix_append_right_inj _).2 ?_
          show [(rest.extract 0 (i + 1)).data.toList] <+: _
          rw [ext_take]
          exact ⟨_, rfl⟩
end

section
/-! Regions in a round of a range over a function: an operation that is no 'defer' is carried out as in a plain frame. -/
open Go.RowKit
variable {n l : Nat} {P : Program} {Q : Exit → Act → World → Prop}
theorem inR {f : FuncId} {args : Array Value} {w : World} {R : Ending → World → Prop} (h : Calls P f args w R) : CallsIn (Fence.wide.inRound l) n P f args w R := CallsIn.inRound l (callsIn_wide.2 h)
def noDefer (o : Oper) : Bool := match o.op with
  | .defer _ => false
  | _ => true
theorem noDefer_ne {o : Oper} (h : noDefer o = true) : ∀ c, o.op ≠ .defer c := by
  intro c e
  unfold noDefer at h
  rw [e] at h
  cases h
theorem upon_inRound {o : Oper} {a : Act} {K : Act → World → Prop} {r : Result Next} (h : o.uponIn Fence.wide n P a K Q r) : o.uponIn (Fence.wide.inRound l) n P a K Q r := by
  cases r with
  | ok x w' => cases x <;> exact h
  | halt x w' => cases x <;> exact h
theorem wpIn_inRound {o : Oper} (ho : noDefer o = true) {a : Act} {w : World} {K : Act → World → Prop} (h : o.wpIn Fence.wide n P a w K Q) : o.wpIn (Fence.wide.inRound l) n P a w K Q := by
  unfold Oper.wpIn at h ⊢
  refine ⟨h.1, ?_⟩
  have h2 := h.2
  rw [Oper.semAt_plain _ _ _ (noDefer_ne ho)] at h2 ⊢
  exact upon_inRound h2
theorem wpAnyIn_inRound {md : Region.Mode} {ops : Array Oper} (hnd : ops.toList.all noDefer = true) : ∀ (fuel : Nat) (listed : Array Bool) (a : Act) (w : World), wpAnyIn Fence.wide n P md ops Q fuel listed a w → wpAnyIn (Fence.wide.inRound l) n P md ops Q fuel listed a w := by
  intro fuel
  induction fuel with
  | zero => intro listed a w h; exact h
  | succ fuel ih =>
    intro listed a w h
    refine ⟨h.1, fun i hi => ?_⟩
    have h2 := wpOpIn_mono (fun a w => ih _ a w) (h.2 i hi)
    unfold wpOpIn at h2 ⊢
    cases ho : ops[i]? with
    | none => rw [ho] at h2; exact h2
    | some o =>
      rw [ho] at h2
      have hm : noDefer o = true := by
        rw [List.all_eq_true] at hnd
        refine hnd o ?_
        obtain ⟨h3, rfl⟩ := Array.getElem?_eq_some_iff.1 ho
        simp
      simp only [] at h2 ⊢
      split
      · rename_i hw
        rw [if_pos hw] at h2
        exact wpIn_inRound hm h2
      · rename_i hw
        rw [if_neg hw] at h2
        exact h2
theorem wpIn_region_rnd {id : Nat} {ops : Array Oper} {a : Act} {w : World} (hm : P.follows .mixedOrders = true) (hnd : ops.toList.all noDefer = true)
    (h : wpAnyIn Fence.wide n P .any ops Q ops.size (Array.replicate ops.size false) a w.drew) : (Code.region id ops true).wpIn (Fence.wide.inRound l) n P Q a w :=
  wpIn_region_any hm (wpAnyIn_inRound hnd _ _ _ _ h)
/-- A guarded operation that is passed over, in a fence that lets every function in. -/
theorem wpListIn_pass {F : Fence} {ops : Array Oper} {rest : List Oper} {o : Oper} {a : Act} {w : World} (h : Region.wanted o (yielded ops a.tmps) = false) (hF : ∀ f, F.fn f) (hK : wpListIn F n P ops Q rest (a.put o.dst undef) w) : wpListIn F n P ops Q (o :: rest) a w := by
  unfold wpListIn
  rw [if_neg (by rw [h]; decide)]
  exact ⟨fun f _ => hF f, hK⟩
/-- append, as an operation inside a fence. -/
theorem wpIn_app1 {F : Fence} {α : Type} {enc : α → List Value} {size bytes : Nat} {t e : TypeId} (E : ElemOf P enc size bytes t e) (w : World) {o : Oper} {a : Act} {K : Act → World → Prop} (s x : Operand)
    (ho : o.op = .call { callee := .builtin .append, args := #[s, x], argTypes := #[t, t] }) (base : Nat) (A : Option Addr) (c : Nat) (ls : List α) (hs : a.eval s = .slice A ls.length c) (hown : OwnL enc size e base w (.slice A ls.length c) ls)
    (f : α) (b c2 : Nat) (hx : a.eval x = .slice (some ⟨b, 0, none⟩) 1 c2) (hb : w.heap[b]? = some (.cells (enc f).toArray e (0, 0))) (h63 : ls.length + 1 ≤ maxLen) (hbytes : (ls.length + 1) * bytes ≤ 140737488355328) (hbase : base ≤ w.heap.size)
    (h : ∀ g cap w', App w w' base e size (.slice A ls.length c) g cap ls.length 1 (ls.flatMap enc) (enc f) → K (a.put o.dst (.slice (some ⟨g, 0, none⟩) (ls.length + 1) cap)) w') : Oper.wpIn F n P o a w K Q := by
  obtain ⟨z, i, hi, hz, hsz, hby, hzs⟩ := E.info
  obtain ⟨g, cap, w', hr, h2⟩ := run_app (P := P) w t o.type base e i z size bytes E.ty hi hz hsz hby hzs E.pos _ ls.length _ hown ⟨b, 0, none⟩ 1 c2 (enc f) (by rw [E.len]; simp) (cells_block hb) (E.one f) (by omega) h63 hbytes hbase
  unfold Oper.wpIn
  refine ⟨?_, ?_⟩
  · simp [Oper.about, ho, resolve, Target.leads, Sem.run_pure]
  · rw [Oper.semAt_plain F _ _ (by rw [ho]; intro c hc'; cases hc')]
    simp [execOp, ho, resolve, invoke, builtin, hs, hx, hr, Result.andThen]
    exact h g cap w' h2
theorem wpListIn_app1 {F : Fence} {α : Type} {enc : α → List Value} {size bytes : Nat} {t e : TypeId} (E : ElemOf P enc size bytes t e) (w : World) {ops : Array Oper} {rest : List Oper} {o : Oper} {a : Act} (hgd : o.guard = none) (s x : Operand)
    (ho : o.op = .call { callee := .builtin .append, args := #[s, x], argTypes := #[t, t] }) (base : Nat) (A : Option Addr) (c : Nat) (ls : List α) (hs : a.eval s = .slice A ls.length c) (hown : OwnL enc size e base w (.slice A ls.length c) ls)
    (f : α) (b c2 : Nat) (hx : a.eval x = .slice (some ⟨b, 0, none⟩) 1 c2) (hb : w.heap[b]? = some (.cells (enc f).toArray e (0, 0))) (h63 : ls.length + 1 ≤ maxLen) (hbytes : (ls.length + 1) * bytes ≤ 140737488355328) (hbase : base ≤ w.heap.size)
    (h : ∀ g cap w', App w w' base e size (.slice A ls.length c) g cap ls.length 1 (ls.flatMap enc) (enc f) → wpListIn F n P ops Q rest (a.put o.dst (.slice (some ⟨g, 0, none⟩) (ls.length + 1) cap)) w') : wpListIn F n P ops Q (o :: rest) a w :=
  wpListIn_plain hgd fun _ hK => wpIn_app1 E w s x ho base A c ls hs hown f b c2 hx hb h63 hbytes hbase fun g cap w' h2 => hK _ _ (h g cap w' h2)
/-- append, as a step of a region inside a fence. -/
theorem stepIn_app1 {F : Fence} {α : Type} {enc : α → List Value} {size bytes : Nat} {t e : TypeId} (E : ElemOf P enc size bytes t e) (w : World) {ops : Array Oper} {o : Oper} {a : Act} {K : Act → World → Prop} {X : Prop} (hgd : o.guard = none) (s x : Operand)
    (ho : o.op = .call { callee := .builtin .append, args := #[s, x], argTypes := #[t, t] }) (base : Nat) (A : Option Addr) (c : Nat) (ls : List α) (hs : a.eval s = .slice A ls.length c) (hown : OwnL enc size e base w (.slice A ls.length c) ls)
    (f : α) (b c2 : Nat) (hx : a.eval x = .slice (some ⟨b, 0, none⟩) 1 c2) (hb : w.heap[b]? = some (.cells (enc f).toArray e (0, 0))) (h63 : ls.length + 1 ≤ maxLen) (hbytes : (ls.length + 1) * bytes ≤ 140737488355328) (hbase : base ≤ w.heap.size)
    (h : ∀ g cap w', App w w' base e size (.slice A ls.length c) g cap ls.length 1 (ls.flatMap enc) (enc f) → K (a.put o.dst (.slice (some ⟨g, 0, none⟩) (ls.length + 1) cap)) w') :
    if Region.wanted o (yielded ops a.tmps) = true then Oper.wpIn F n P o a w K Q else X := by
  have hw : Region.wanted o (yielded ops a.tmps) = true := by simp [Region.wanted, hgd]
  rw [if_pos hw]
  obtain ⟨z, i, hi, hz, hsz, hby, hzs⟩ := E.info
  obtain ⟨g, cap, w', hr, h2⟩ := run_app (P := P) w t o.type base e i z size bytes E.ty hi hz hsz hby hzs E.pos _ ls.length _ hown ⟨b, 0, none⟩ 1 c2 (enc f) (by rw [E.len]; simp) (cells_block hb) (E.one f) (by omega) h63 hbytes hbase
  unfold Oper.wpIn
  refine ⟨?_, ?_⟩
  · simp [Oper.about, ho, resolve, Target.leads, Sem.run_pure]
  · rw [Oper.semAt_plain F _ _ (by rw [ho]; intro c hc'; cases hc')]
    simp [execOp, ho, resolve, invoke, builtin, hs, hx, hr, Result.andThen]
    exact h g cap w' h2
end

section
/-! Chapter 58: Parse of the program: what the boxes hold between two rounds. -/
open Go.RowKit
set_option maxRecDepth 100000
set_option maxHeartbeats 1000000
/-- Between two rounds: the four boxes. -/
structure PcS (w : World) (pre : List Lm) (W : World) : Prop where
  below : Below w.heap.size w W
  r0 : Boxed W w.heap.size 22 (.slice none 0 0)
  r1 : Boxed W (w.heap.size + 1) 25 (.int .i64 0)
  bx : ∃ u, Boxed W (w.heap.size + 3) 9 u
  out : ∃ v l, Boxed W (w.heap.size + 2) 22 v ∧ OwnL entE 21 40 w.heap.size W v l ∧ rowsA (pre.map fun x => trimL (lmB x)) = some l
/-- Behind a bad row. -/
structure PcX (w : World) (pre : List Lm) (W : World) : Prop where
  below : Below w.heap.size w W
  r0 : Boxed W w.heap.size 22 (.slice none 0 0)
  r1 : Boxed W (w.heap.size + 1) 25 (.int .i64 4)
  bad : rowsA (pre.map fun x => trimL (lmB x)) = none
theorem boxed_ne {X : World} {row : Option Nat} {B : Nat} (hr : ∀ r, row = some r → B ≤ r ∧ ∃ o : Obj, X.heap[r]? = some o ∧ o.isCells = false) {b : Nat} {t : TypeId} {v : Value} (h : Boxed X b t v) : some b ≠ row := fun e => by
  obtain ⟨_, o, ho, hc⟩ := hr _ e.symm
  rw [show X.heap[b]? = _ from h] at ho
  cases ho; cases hc
theorem own_ne {X : World} {row : Option Nat} {B : Nat} (hr : ∀ r, row = some r → B ≤ r ∧ ∃ o : Obj, X.heap[r]? = some o ∧ o.isCells = false) {α : Type} {enc : α → List Value} {size e base : Nat} {v : Value} {l : List α} (h : OwnL enc size e base X v l) {Y : World} (hg : X.grownBy Y row) : OwnL enc size e base Y v l := by
  refine World.ownsRow.kept h hg ?_
  rcases h.2 with ⟨rfl, _⟩ | ⟨g, cap, cur, rfl, _, hgb, _⟩
  · exact .inl rfl
  · refine .inr fun e' => ?_
    obtain ⟨_, o, ho, hc⟩ := hr g (by simpa [Value.ownBlock] using e'.symm)
    rw [hgb] at ho; cases ho; cases hc
theorem PcS.from (w : World) {B : Nat} (hB : w.heap.size ≤ B) : OwnFrom B (PcS w) := fun s X Y row hs hg hr => by
  obtain ⟨v, l, h1, h2, h3⟩ := hs.out
  obtain ⟨u, h4⟩ := hs.bx
  exact ⟨hs.below.grown hg hs.below.size (fun k e => Nat.le_trans hB (hr k e).1), hs.r0.kept hg (boxed_ne hr hs.r0), hs.r1.kept hg (boxed_ne hr hs.r1), ⟨u, h4.kept hg (boxed_ne hr h4)⟩, v, l, h1.kept hg (boxed_ne hr h1), own_ne hr h2 hg, h3⟩
theorem PcX.from (w : World) {B : Nat} (hB : w.heap.size ≤ B) : OwnFrom B (PcX w) := fun s X Y row hs hg hr =>
  ⟨hs.below.grown hg hs.below.size (fun k e => Nat.le_trans hB (hr k e).1), hs.r0.kept hg (boxed_ne hr hs.r0), hs.r1.kept hg (boxed_ne hr hs.r1), hs.bad⟩
theorem PcS.set {w : World} (s : List Lm) (W : World) (u : Value) (hs : PcS w s W) : PcS w s (W.setCell ⟨w.heap.size + 3, 0, none⟩ u) := by
  obtain ⟨v, l, h1, h2, h3⟩ := hs.out
  obtain ⟨u', h4⟩ := hs.bx
  exact ⟨hs.below.setCell (p := ⟨w.heap.size + 3, 0, none⟩) (by show w.heap.size ≤ w.heap.size + 3; omega) u, hs.r0.other (by omega) u, hs.r1.other (by omega) u, ⟨u, h4.set u⟩, v, l, h1.other (by omega) u, World.ownsRow.kept h2 (grownBy_setCell' W _ u) (.inr (h4.not_row (by decide) h2).symm), h3⟩
theorem PcX.set {w : World} (s : List Lm) (W : World) (u : Value) (hs : PcX w s W) : PcX w s (W.setCell ⟨w.heap.size + 3, 0, none⟩ u) :=
  ⟨hs.below.setCell (p := ⟨w.heap.size + 3, 0, none⟩) (by show w.heap.size ≤ w.heap.size + 3; omega) u, hs.r0.other (by omega) u, hs.r1.other (by omega) u, hs.bad⟩
theorem boxed_to {W W' : World} {b : Nat} {t : TypeId} {v : Value} (h : Boxed W b t v) (hb : Below W.heap.size W W') : Boxed W' b t v := (hb.block b h.lt).trans h
theorem keepsO_below {W W' : World} (h : Below W.heap.size W W') : KeepsOthers W W' := ⟨h.size, fun k o hk _ => (h.block k (Array.getElem?_eq_some_iff.1 hk).1).trans hk⟩
theorem rows_snoc {pre : List Lm} {x : Lm} : rowsA ((pre ++ [x]).map fun x => trimL (lmB x)) = match rowsA (pre.map fun x => trimL (lmB x)), fldA (trimL (lmB x)) with
    | some l, some z => some (l ++ [z])
    | _, _ => none := by
  rw [List.map_append, rowsA_append, List.map_cons, List.map_nil, rowsA_one]
  cases rowsA (pre.map fun x => trimL (lmB x)) <;> cases fldA (trimL (lmB x)) <;> rfl
theorem pc_bad {w W W5 : World} {pre : List Lm} {x : Lm} (hs : PcS w pre W) (h5 : Below W.heap.size W W5) (hz : fldA (trimL (lmB x)) = none) (B : Nat) :
    KeepsFrom B W ((W5.setCell ⟨w.heap.size, 0, none⟩ (.slice none 0 0)).setCell ⟨w.heap.size + 1, 0, none⟩ (.int .i64 4)) ∧ PcX w (pre ++ [x]) ((W5.setCell ⟨w.heap.size, 0, none⟩ (.slice none 0 0)).setCell ⟨w.heap.size + 1, 0, none⟩ (.int .i64 4)) := by
  refine ⟨(((keepsO_below h5).trans (KeepsOthers.setCell _ _ _)).trans (KeepsOthers.setCell _ _ _)).from B, ?_, ?_, ?_, ?_⟩
  · exact ((hs.below.trans (h5.mono hs.below.size)).setCell (p := ⟨w.heap.size, 0, none⟩) (Nat.le_refl _) _).setCell (p := ⟨w.heap.size + 1, 0, none⟩) (Nat.le_succ _) _
  · exact ((boxed_to hs.r0 h5).set _).other (by omega) _
  · exact ((boxed_to hs.r1 h5).other (by omega) _).set _
  · rw [rows_snoc, hz]; cases rowsA (pre.map fun x => trimL (lmB x)) <;> rfl
theorem pc_good {w W W5 w1 : World} {pre : List Lm} {x : Lm} {v v' : Value} {l : List Ent} {z : Ent} {tmp : Obj} (hs : PcS w pre W) (h5 : Below W.heap.size W W5) (hv : Boxed W (w.heap.size + 2) 22 v) (hown : OwnL entE 21 40 w.heap.size W v l) (hrows : rowsA (pre.map fun x => trimL (lmB x)) = some l)
    (hz : fldA (trimL (lmB x)) = some z) (hown' : w1.ownsRow w.heap.size 40 21 v' (l.length + 1) (l.flatMap entE ++ entE z)) (hgrow : (W5.alloc tmp).grownBy w1 v.ownBlock) (B : Nat) :
    KeepsFrom B W (w1.setCell ⟨w.heap.size + 2, 0, none⟩ v') ∧ (w1.setCell ⟨w.heap.size + 2, 0, none⟩ v').heap[w.heap.size + 3]? = W.heap[w.heap.size + 3]? ∧ PcS w (pre ++ [x]) (w1.setCell ⟨w.heap.size + 2, 0, none⟩ v') := by
  obtain ⟨u, hu⟩ := hs.bx
  have hv5 : Boxed W5 (w.heap.size + 2) 22 v := boxed_to hv h5
  have ho5 : OwnL entE 21 40 w.heap.size W5 v l := own_below hown h5 (Nat.le_refl _)
  have hb5 : w.heap.size ≤ W5.heap.size := Nat.le_trans hs.below.size h5.size
  obtain ⟨k1, k2, k3, k4, k5⟩ := Boxed.appended hv5 (by decide) ho5 hb5 (by omega) hown' hgrow
  have far : ∀ {b : Nat} {t : TypeId} {u : Value}, Boxed W b t u → t ≠ 40 → b ≠ w.heap.size + 2 → Boxed (w1.setCell ⟨w.heap.size + 2, 0, none⟩ v') b t u := fun {b t u} h ht hne =>
    (((boxed_to h h5).alloc tmp).kept hgrow ((boxed_to h h5).not_row ht ho5)).other hne _
  have hu6 := far hu (by decide) (by omega)
  refine ⟨((keepsO_below h5).trans k4).from B, by rw [show _ = _ from hu6, show W.heap[w.heap.size + 3]? = _ from hu], ?_, far hs.r0 (by decide) (by omega), far hs.r1 (by decide) (by omega), ⟨u, hu6⟩, v', l ++ [z], k2, own_snoc k3, ?_⟩
  · exact (hs.below.trans (h5.mono hs.below.size)).trans k5
  · rw [rows_snoc, hrows, hz]
end

section
/-! Chapter 58: Parse of the program: a range over strings.Lines. -/
open Go.RowKit
attribute [local go_sem] Oper.semAt_some
set_option maxRecDepth 100000
set_option maxHeartbeats 4000000
theorem Tryz.lines_p (s : ByteArray) (w : World) : Calls Tryz.prog 27 #[.string s] w fun e w' => e = .returned (.func (.func 54) #[] #[.pointer (some ⟨w.heap.size, 0, none⟩)]) ∧ w' = w.alloc (.cells #[.string s] 9) := by
  go_enter Tryz.func27, Tryz.ntmps27
  go_wp2_with fail
  go_ret
  exact ⟨rfl, rfl⟩
theorem trimSuffix_ten (l : List UInt8) : Lib.trimSuffix l [10] = trimL l := by
  unfold Lib.trimSuffix Lib.hasSuffix trimL
  by_cases h : l.getLast? = some 10
  · have h1 : [10] <:+ l := by
      obtain ⟨a, ha⟩ := List.getLast?_eq_some_iff.1 h
      exact ⟨a, ha.symm⟩
    rw [if_pos h, if_pos (List.isSuffixOf_iff_suffix.2 h1), List.dropLast_eq_take]; rfl
  · rw [if_neg h, if_neg]
    intro e
    obtain ⟨a, ha⟩ := List.isSuffixOf_iff_suffix.1 e
    exact h (by rw [← ha]; simp)
theorem Tryz.ts10 (s : ByteArray) (w : World) (hs : s.size ≤ 9223372036854775807) :
    Calls Tryz.prog 29 #[.string s, .string ⟨#[10]⟩] w fun e w' => e = .returned (.string (baA (trimL s.data.toList))) ∧ w = w' :=
  (Tryz.ts_p s ⟨#[10]⟩ w hs).mono fun _ _ ⟨h1, h2⟩ => ⟨by rw [h1, show (⟨#[10]⟩ : ByteArray).data.toList = [10] from rfl, trimSuffix_ten]; rfl, h2⟩
theorem pc_good' {w W W5 w1 : World} {pre : List Lm} {x : Lm} {A : Option Addr} {cp g cap : Nat} {l : List Ent} {z : Ent} {tmp : Obj} (hs : PcS w pre W) (h5 : Below W.heap.size W W5) (hv : Boxed W (w.heap.size + 2) 22 (.slice A l.length cp)) (hown : OwnL entE 21 40 w.heap.size W (.slice A l.length cp) l) (hrows : rowsA (pre.map fun x => trimL (lmB x)) = some l)
    (hz : fldA (trimL (lmB x)) = some z) (ha : App (W5.alloc tmp) w1 w.heap.size 40 21 (.slice A l.length cp) g cap l.length 1 (l.flatMap entE) (entE z)) (B : Nat) :
    Boxed w1 (w.heap.size + 2) 22 (.slice A l.length cp) ∧ postBox B (w.heap.size + 3) (PcS w) (fun c pre W => c = .ret ∧ PcX w pre W) (pre ++ [x]) W .normal { tmps := #[], defers := [] } (w1.setCell ⟨w.heap.size + 2, 0, none⟩ (.slice (some ⟨g, 0, none⟩) (l.length + 1) cap)) := by
  have hv5 : Boxed W5 (w.heap.size + 2) 22 (.slice A l.length cp) := boxed_to hv h5
  have ho5 : OwnL entE 21 40 w.heap.size W5 (.slice A l.length cp) l := own_below hown h5 (Nat.le_refl _)
  exact ⟨(hv5.alloc tmp).kept ha.grown (hv5.not_row (by decide) ho5), pc_good hs h5 hv hown hrows hz ha.own ha.grown B⟩
theorem loadVar_off {w : World} {b : Nat} {v : Value} (h : w.cell? ⟨b, 0, none⟩ = some v) : (loadVar 22 ⟨b, 0, none⟩).run Tryz.prog w = .ok v w := by
  go_simp
theorem loadVar_err {w : World} {b : Nat} {v : Value} (h : w.cell? ⟨b, 0, none⟩ = some v) : (loadVar 25 ⟨b, 0, none⟩).run Tryz.prog w = .ok v w := by
  go_simp
theorem results_cell2 {P : Program} {fn : Func} {a b : Tmp} {t u : TypeId} (h : fn.results = #[.cell a t, .cell b u]) {tmps : Array Value} {w : World} {p q : Addr} {x y : Value}
    (ha : tmps.getD a undef = .pointer (some p)) (hb : tmps.getD b undef = .pointer (some q)) (hx : (loadVar t p).run P w = .ok x w) (hy : (loadVar u q).run P w = .ok y w) : (results fn tmps).run P w = .ok (.tuple #[x, y]) w := by
  rw [Array.getD_eq_getD_getElem?] at ha hb
  simp [results, h, asAddr, ha, hb, Sem.run_bind, hx, hy, Result.andThen]
theorem boxed_put {W : World} {D b : Nat} {t : TypeId} {v : Value} {o : Obj} (o' : Obj) (h : Boxed W b t v) (hK : W.heap[D]? = some o) (ho : o.isCells = false) : Boxed (W.putObj D o') b t v :=
  h.kept (grownBy_putObj' W D o') (fun e => by
    injection e with e
    subst e
    rw [show W.heap[b]? = _ from h] at hK
    cases hK
    cases ho)
theorem pc_end {w WF : World} {tmps : Array Value} {v : Value} {e : Int} {l : List Ent} {R : List (List UInt8)} {s : List UInt8} (h2 : tmps.getD 2 undef = .pointer (some ⟨w.heap.size, 0, none⟩)) (h3 : tmps.getD 3 undef = .pointer (some ⟨w.heap.size + 1, 0, none⟩))
    (b0 : Boxed WF w.heap.size 22 v) (b1 : Boxed WF (w.heap.size + 1) 25 (.int .i64 e)) (hb : Below w.heap.size w WF) (ho : OwnL entE 21 40 w.heap.size WF v l) (hP : ParA R s = (l, e)) :
    LeavesInM Fence.wide 5 Tryz.prog Tryz.f9 tmps (fun e w' => ∃ v, e = .returned (.tuple #[v, .int .i64 (ParA R s).2]) ∧ OwnL entE 21 40 w.heap.size w' v (ParA R s).1 ∧ Below w.heap.size w w') [] .returning WF :=
  ⟨_, results_cell2 rfl h2 h3 (loadVar_off b0.cell) (loadVar_err b1.cell), v, by rw [hP], by rw [hP]; exact ho, hb⟩
theorem pc_fin {w w2 : World} {D : Nat} {tmps : Array Value} {v u u' : Value} {e : Int} {l : List Ent} {R : List (List UInt8)} {s : List UInt8} (h2 : tmps.getD 2 undef = .pointer (some ⟨w.heap.size, 0, none⟩)) (h3 : tmps.getD 3 undef = .pointer (some ⟨w.heap.size + 1, 0, none⟩))
    (hb : Below w.heap.size w w2) (b0 : Boxed w2 w.heap.size 22 u) (b1 : Boxed w2 (w.heap.size + 1) 25 u') (hK : w2.heap[D]? = some (.deferred (some []))) (hD : w.heap.size ≤ D) (ho : OwnL entE 21 40 w.heap.size w2 v l) (hP : ParA R s = (l, e)) :
    LeavesInM Fence.wide 5 Tryz.prog Tryz.f9 tmps (fun e w' => ∃ v, e = .returned (.tuple #[v, .int .i64 (ParA R s).2]) ∧ OwnL entE 21 40 w.heap.size w' v (ParA R s).1 ∧ Below w.heap.size w w') [] .returning
      (((w2.setCell ⟨w.heap.size, 0, none⟩ v).setCell ⟨w.heap.size + 1, 0, none⟩ (.int .i64 e)).putObj D (.deferred none)) := by
  have hb6 := (hb.setCell (p := ⟨w.heap.size, 0, none⟩) (Nat.le_refl _) v).setCell (p := ⟨w.heap.size + 1, 0, none⟩) (Nat.le_succ _) (.int .i64 e)
  have hK6 := ((KeepsOthers.setCell w2 ⟨w.heap.size, 0, none⟩ v).trans (KeepsOthers.setCell _ ⟨w.heap.size + 1, 0, none⟩ (.int .i64 e))).same D _ hK rfl
  have k1 : Boxed (w2.setCell ⟨w.heap.size, 0, none⟩ v) (w.heap.size + 1) 25 u' := b1.other (by omega) _
  have o1 : OwnL entE 21 40 w.heap.size (w2.setCell ⟨w.heap.size, 0, none⟩ v) v l := World.ownsRow.kept ho (grownBy_setCell' w2 _ _) (.inr (b0.not_row (by decide) ho).symm)
  have o2 : OwnL entE 21 40 w.heap.size ((w2.setCell ⟨w.heap.size, 0, none⟩ v).setCell ⟨w.heap.size + 1, 0, none⟩ (.int .i64 e)) v l := World.ownsRow.kept o1 (grownBy_setCell' _ _ _) (.inr (k1.not_row (by decide) o1).symm)
  exact pc_end h2 h3 (boxed_put _ ((b0.set v).other (by omega) _) hK6 rfl) (boxed_put _ (k1.set _) hK6 rfl) (hb6.grown (grownBy_putObj' _ D _) hb6.size (fun k e => by cases e; exact hD)) (ownsRow_putObj o2 _ hK6 rfl) hP
section
variable {F : Fence} {n : Nat} {P : Program} {w : World} {ops : Array Oper} {rest : List Oper} {o : Oper} {a : Act} {Q : Exit → Act → World → Prop}
theorem wpListIn_loadC (hgd : o.guard = none) (p : Operand) (t : TypeId) (hop : o.op = Op.load t p) (g : Nat) (e : TypeId) (xs : List Value) (d : TypeDesc) (hu : P.underlying t = some d) (hd : (match d with | .struct _ | .array _ _ => true | _ => false) = true)
    (hi : (P.info? t).map (·.size) = some xs.length) (hp : a.eval p = .pointer (some ⟨g, 0, none⟩)) (hb : Blk w g e xs) (h : wpListIn F n P ops Q rest (a.put o.dst (.agg xs.toArray)) w) : wpListIn F n P ops Q (o :: rest) a w := by
  refine wpListIn_plain hgd fun _ hK => ?_
  unfold Oper.wpIn
  have := run_loadVar_row (P := P) w g e t xs.toArray (0, 0) d hb hu hd (by simpa using hi)
  refine ⟨by simp [Oper.about, hop], ?_⟩
  rw [Oper.semAt_plain F _ _ (by rw [hop]; intro c hc'; cases hc')]
  simp only [execOp, hop, hp, Instr.loadAt, Instr.sureAddr, Sem.run_bind, Sem.run_pure, Result.andThen_ok, this]
  exact hK _ _ h
theorem wpListIn_storeNew (hgd : o.guard = none) (p x : Operand) (t : TypeId) (hop : o.op = Op.store t p x) (c : Array Value) (ys : Array Value)
    (hi : (P.info? t).map (·.size) = some ys.size) (hp : a.eval p = .pointer (some ⟨w.heap.size, 0, none⟩)) (hx : a.eval x = .agg ys) (hl : c.size = ys.size) (h1 : ys.all (·.oneCell') = true)
    (h : wpListIn F n P ops Q rest (a.put o.dst undef) (w.alloc (.cells ys t))) : wpListIn F n P ops Q (o :: rest) a (w.alloc (.cells c t)) := by
  refine wpListIn_plain hgd fun _ hK => ?_
  unfold Oper.wpIn
  have hb : Blk (w.alloc (.cells c t)) w.heap.size t c.toList := by unfold Blk; exact heap_alloc_new w _
  have := run_storeVar_row (P := P) (w.alloc (.cells c t)) w.heap.size t t c.toList.toArray ys hb hi (by simpa using hl) h1
  refine ⟨by simp [Oper.about, hop], ?_⟩
  rw [Oper.semAt_plain F _ _ (by rw [hop]; intro c hc'; cases hc')]
  simp only [execOp, hop, hp, hx, Instr.storeAt, Instr.sureAddr, Sem.run_bind, Sem.run_pure, Result.andThen_ok, this]
  rw [World.setRow_alloc_new]
  exact hK _ _ h
theorem wpListIn_buildTo (hg : o.guard = none) (t : TypeId) (parts : Array (Nat × Operand)) (ho : o.op = .build t parts)
    (d : Option Tmp) (hd : o.dst = d) (cells : Array Value) (hf : P.built t (parts.map fun (i, x) => (i, a.eval x)).toList = some cells)
    (h : wpListIn F n P ops Q rest (a.put d (.agg cells)) w) : wpListIn F n P ops Q (o :: rest) a w := by
  subst hd
  refine wpListIn_plain hg fun _ hK => ?_
  unfold Oper.wpIn
  refine ⟨by simp [Oper.about, ho], ?_⟩
  rw [Oper.semAt_plain F _ _ (by rw [ho]; intro c hc'; cases hc')]
  unfold execOp
  simp only [ho, Sem.run_bind, run_build w t _ cells hf, Result.andThen_ok]
  exact hK _ _ h
theorem wpListIn_buildE {α : Type} {enc : α → List Value} {size bytes : Nat} {t e : TypeId} (E : ElemOf P enc size bytes t e) (hg : o.guard = none) (k : Nat) (parts : Array (Nat × Operand)) (ho : o.op = .buildSlice t k parts)
    (l : List α) (hn : l.length = k) (hpos : 0 < k) (hsm : k * size ≤ 1000000) (hp : (parts.toList.map fun (x : Nat × Operand) => (x.1, a.eval x.2)) = ((l.map fun x => Value.agg (enc x).toArray).zipIdx 0).map fun x => (x.2, x.1))
    (h : wpListIn F n P ops Q rest (a.put o.dst (.slice (some ⟨w.heap.size, 0, none⟩) k k)) (w.alloc (.cells (l.flatMap enc).toArray e))) : wpListIn F n P ops Q (o :: rest) a w := by
  obtain ⟨z, i, hi, h0, h1, h2, hzs⟩ := E.info
  have hne : ¬ k * i.size = 0 := by rw [h1]; have := Nat.mul_pos hpos E.pos; omega
  have hf : Instr.fill (fun j => some (j * i.size, i.size)) ((Array.range (k * i.size)).map (z.cells[· % z.cells.size]!)) (parts.map fun (i, x) => (i, a.eval x)).toList = some (l.flatMap enc).toArray := by
    rw [Array.toList_map, h1, show (fun x : Nat × Operand => match x with | (i, x) => (i, a.eval x)) = (fun x : Nat × Operand => (x.1, a.eval x.2)) from rfl, hp]
    exact fill_enc E.pos E.len l _ (by simp [hn])
  refine wpListIn_plain hg fun _ hK => ?_
  unfold Oper.wpIn
  refine ⟨by simp [Oper.about, ho], ?_⟩
  rw [Oper.semAt_plain F _ _ (by rw [ho]; intro c hc'; cases hc')]
  unfold execOp
  simp only [ho, Sem.run_bind, run_buildSlice w t e k _ _ i z E.ty hi h0 (by rw [h1]; omega) hne hf, Result.andThen_ok]
  exact hK _ _ h
end
theorem Tryz.cut32 (r : List UInt8) (hr : r.length ≤ 10000) (w : World) (hw : LibW w) :
    Calls Tryz.prog 28 #[.string (baA r), .string ⟨#[32]⟩] w fun e w' => e = .returned (.tuple #[.string (baA (Lib.cut r [32]).1), .string (baA (Lib.cut r [32]).2.1), .bool (Lib.cut r [32]).2.2]) ∧ Below w.heap.size w w' := by
  obtain ⟨m, hm⟩ := hw.maxlen
  exact Tryz.cut_p (baA r) ⟨#[32]⟩ m w (by show r.toArray.size < _; simp; omega) hm
theorem parse_ap (s : ByteArray) (w : World) (hs : s.size ≤ 10000) (hW : LibW w) :
    Calls Tryz.prog 9 #[.string s] w fun e w' => ∃ v, e = .returned (.tuple #[v, .int .i64 (ParA (rowsR (splitC 10 s.data.toList)) s.data.toList).2]) ∧ OwnL entE 21 40 w.heap.size w' v (ParA (rowsR (splitC 10 s.data.toList)) s.data.toList).1 ∧ Below w.heap.size w w' := by
  have HLW := Lib.hid hW
  obtain ⟨R, hR⟩ : ∃ R, rowsR (splitC 10 s.data.toList) = R := ⟨_, rfl⟩
  rw [hR]
  have HRR := Lib.hid hR
  clear hW hR
  refine (callsIn_wide (n := 5)).1 ?_
  refine callsIn_of_wp_marks Tryz.func9 rfl trivial ?_ rfl
  simp only [Tryz.ntmps9, List.size_toArray, List.length_cons, List.length_nil, Nat.reduceAdd, Nat.reduceSub, Array.replicate_succ, Array.replicate_zero, List.push_toArray, List.append_toArray, List.nil_append, List.cons_append]
  gi_wp2_with (refine ⟨trivial, ?_⟩; gi_at_call 27; refine (callsIn_wide.2 (Tryz.lines_p s _)).mono ?_; rintro e w' ⟨rfl, rfl⟩)
  obtain ⟨W0, hW0⟩ : ∃ W0, ((((w.alloc (.cells #[.slice none 0 0] 22)).alloc (.cells #[.int .i64 0] 25)).alloc (.cells #[.slice none 0 0] 22)).alloc (.cells #[.string s] 9)) = W0 := ⟨_, rfl⟩
  have hsz0 : W0.heap.size = w.heap.size + 4 := by rw [← hW0]; simp
  have b0 : Boxed W0 w.heap.size 22 (.slice none 0 0) := by rw [← hW0]; exact (((Boxed.new w _ _).alloc _).alloc _).alloc _
  have b1 : Boxed W0 (w.heap.size + 1) 25 (.int .i64 0) := by
    rw [← hW0]
    have := Boxed.new (w.alloc (.cells #[.slice none 0 0] 22)) 25 (.int .i64 0)
    rw [World.size_alloc] at this
    exact (this.alloc _).alloc _
  have b2 : Boxed W0 (w.heap.size + 2) 22 (.slice none 0 0) := by
    rw [← hW0]
    have := Boxed.new ((w.alloc (.cells #[.slice none 0 0] 22)).alloc (.cells #[.int .i64 0] 25)) 22 (.slice none 0 0)
    rw [World.size_alloc, World.size_alloc] at this
    exact this.alloc _
  have b3 : Boxed W0 (w.heap.size + 3) 9 (.string s) := by
    rw [← hW0]
    have := Boxed.new (((w.alloc (.cells #[.slice none 0 0] 22)).alloc (.cells #[.int .i64 0] 25)).alloc (.cells #[.slice none 0 0] 22)) 9 (.string s)
    rw [World.size_alloc, World.size_alloc, World.size_alloc] at this
    exact this
  have hbel : Below w.heap.size w W0 := by rw [← hW0]; exact (((cur_new w _).alloc (by simp) _).alloc (by simp; omega) _).alloc (by simp; omega) _
  rw [hW0]
  have h0 : PcS w [] W0 := ⟨hbel, b0, b1, ⟨_, b3⟩, _, [], b2, ⟨rfl, .inl ⟨rfl, rfl⟩⟩, rfl⟩
  have HB3 := Lib.hid b3
  have H0 := Lib.hid h0
  clear b0 b1 b2 b3 hbel h0 hW0
  refine wpIn_rangeFunc_box rfl (by omega) (gf := 54) (lb := #[.pointer (some ⟨w.heap.size + 3, 0, none⟩)]) rfl trivial (enters_of Tryz.func54 (by kernel_rfl) rfl) (Tryz.lines_stops _ (by omega) (w.heap.size + 3) s hs) HB3.out (fun _ => rfl)
    (PcS w) (fun c pre W => c = .ret ∧ PcX w pre W) (PcS.from w (by omega)) (fun c s' X Y row h hg hr => ⟨h.1, PcX.from w (by omega) s' X Y row h.2 hg hr⟩) (fun s' W u h => PcS.set s' W u h) (fun c s' W u h => ⟨h.1, PcX.set s' W u h.2⟩) H0.out
    (fun x => { tmps := #[.string s, undef, .pointer (some ⟨w.heap.size, 0, none⟩), .pointer (some ⟨w.heap.size + 1, 0, none⟩), .pointer (some ⟨w.heap.size + 2, 0, none⟩), .string x.1, undef, undef, undef, undef, undef, undef, undef, undef, undef, undef, undef, .string s, .func (.func 54) #[] #[.pointer (some ⟨w.heap.size + 3, 0, none⟩)], .string x.1, undef, undef, undef, undef, undef, undef, undef, undef, undef, undef, undef, undef, undef, undef, undef, undef, undef, undef, undef, undef, undef, undef, undef, undef, undef, undef, undef, undef, undef, undef, undef, undef, undef, undef, undef, undef, undef, undef, undef, undef, undef, undef, undef, undef, undef, undef, undef, undef, undef, undef, undef, undef, undef, undef, undef, undef, undef], defers := [] }) ?assign ?body ?done ?stop
  case assign =>
    intro l x W K hK
    gi_wp2
    exact hK
  case body =>
    rintro l pre x W hsz hI hlt
    have hHS := hI
    obtain ⟨v, out, hv, how, hrw⟩ := hI.out
    obtain ⟨r, hr⟩ : ∃ r, trimL (lmB x) = r := ⟨_, rfl⟩
    have hrl : r.length ≤ 10000 := by
      have h1 := x.2
      have h2 : (lmB x).length = x.1.size := by unfold lmB; simp
      rw [← hr]; unfold trimL; split
      · rw [List.length_dropLast]; omega
      · omega
    obtain ⟨A, cp, rfl, hrd, hA⟩ := OwnL.rd entE_len how
    have HS := Lib.hid hI
    have HV := Lib.hid hv
    have HOW := Lib.hid how
    have HRW := Lib.hid hrw
    have HL := Lib.hid (HLW.out.to hI.below)
    have hN := (linesC_small _ s.data.toList (Nat.le_refl _)).2
    have hsl : s.data.toList.length = s.size := by simp
    have hol := (rowsA_size (n := 10000) hrw (fun q hq => by
      obtain ⟨y, _, rfl⟩ := List.mem_map.1 hq
      have h1 := y.2
      have h2 : (lmB y).length = y.1.size := by unfold lmB; simp
      unfold trimL; split
      · rw [List.length_dropLast]; omega
      · omega)).2
    rw [List.length_map] at hol
    have HOL := Lib.hid (show out.length ≤ 10000 by omega)
    have HR := Lib.hid hr
    have hx1 : x.1.size ≤ 9223372036854775807 := by have := x.2; omega
    have hb0 := hI.below.size
    have d1 : 1 ≤ (5 : Nat) := by omega
    obtain ⟨a, ra, fa, hca⟩ : ∃ a ra fa, Lib.cut r [32] = (a, ra, fa) := ⟨_, _, _, rfl⟩
    obtain ⟨b', rb, fb, hcb⟩ : ∃ b rb fb, Lib.cut ra [32] = (b, rb, fb) := ⟨_, _, _, rfl⟩
    obtain ⟨x1, y1, hv1⟩ : ∃ x y, numP a 1 1099511627776 = (x, y) := ⟨_, _, rfl⟩
    obtain ⟨X, er, hv2⟩ : ∃ x y, parS rb = (x, y) := ⟨_, _, rfl⟩
    have la : a.length ≤ 10000 ∧ ra.length ≤ 10000 := by have := cut_len r; rw [hca] at this; dsimp only at this; omega
    have lb : b'.length ≤ 10000 ∧ rb.length ≤ 10000 := by have := cut_len ra; rw [hcb] at this; dsimp only at this; omega
    have HFF := Lib.hid (show fldA (trimL (lmB x)) = if fa = true ∧ fb = true ∧ y1 = 0 ∧ er = 0 then some ⟨x1, X, baA b'⟩ else none by
      rw [hr, fldA_cut, hca]
      dsimp only
      rw [hcb]
      dsimp only
      rw [hv1, hv2])
    have HC1 := Lib.hid hca
    have HC2 := Lib.hid hcb
    have HV1 := Lib.hid hv1
    have HV2 := Lib.hid hv2
    clear hI hv how hrw hHS hrd hA hN hsl hol hlt hca hcb hv1 hv2
    gi_wp2_with (refine ⟨trivial, ?_⟩; gi_at_call 29; refine (inR (Tryz.ts10 x.1 _ hx1)).mono ?_; rintro e w' ⟨rfl, rfl⟩)
    refine ⟨trivial, ?_⟩
    rw [show trimL x.val.data.toList = r from HR.out]
    refine (inR (Tryz.cut32 r hrl _ HL.out)).mono ?_
    rw [HC1.out]
    rintro e w2 ⟨rfl, hb2⟩
    have HX2 := Lib.hid hb2
    have HL2 := Lib.hid (HL.out.to hb2)
    clear hb2
    (try dsimp only)
    gi_wp2_with fail
    refine ⟨trivial, ?_⟩
    refine (inR (Tryz.cut32 ra la.2 _ HL2.out)).mono ?_
    rw [HC2.out]
    rintro e w3 ⟨rfl, hb3⟩
    have HX3 := Lib.hid (cur_step1 HX2.out hb3)
    have HL3 := Lib.hid (HL2.out.to hb3)
    clear hb3
    (try dsimp only)
    gi_wp2_with fail
    refine ⟨trivial, ?_⟩
    refine (inR (number_t (baA a) (by show a.toArray.size ≤ _; simp; omega) 1 1099511627776 (by decide) (by decide) _ HL3.out)).mono ?_
    rw [show (baA a).data.toList = a from rfl, HV1.out]
    rintro e w4 ⟨rfl, hb4⟩
    have HX4 := Lib.hid (cur_step1 HX3.out hb4)
    have HL4 := Lib.hid (HL3.out.to hb4)
    clear hb4
    (try dsimp only)
    gi_wp2_with fail
    refine ⟨trivial, ?_⟩
    refine (inR (parse8_p rb (by omega) _ HL4.out)).mono ?_
    rw [HV2.out]
    rintro e w5 ⟨rfl, hb5⟩
    have HX5 := Lib.hid (cur_step1 HX4.out hb5)
    clear hb5
    (try dsimp only)
    obtain ⟨W6, hW6⟩ : ∃ y, w5.alloc (.cells (evE X).toArray 38) = y := ⟨_, rfl⟩
    have HB6 := Lib.hid (show Below w5.heap.size w5 W6 by rw [← hW6]; exact cur_new _ _)
    have HE6 := Lib.hid (show Blk W6 w5.heap.size 38 (evE X) by rw [← hW6]; exact Blk.new w5 _ _)
    have S6 := Lib.hid hW6
    have HX6 := Lib.hid (cur_step1 HX5.out HB6.out)
    have c0 := (boxed_to HS.out.r0 HX6.out).cell
    have f0 := (boxed_to HS.out.r0 HX6.out).frozen
    have c1 := (boxed_to HS.out.r1 HX6.out).cell
    have f1 := (boxed_to HS.out.r1 HX6.out).frozen
    clear hW6
    by_cases hg : fa = true ∧ fb = true ∧ y1 = 0 ∧ er = 0
    · obtain ⟨rfl, rfl, hy1, her⟩ := hg
      have HF := Lib.hid (show fldA (trimL (lmB x)) = some ⟨x1, X, baA b'⟩ by rw [HFF.out, if_pos ⟨rfl, rfl, hy1, her⟩])
      have g1 : (y1 != 0) = false := by simpa using hy1
      have g2 : (er != 0) = false := by simpa using her
      have cv := (boxed_to HV.out HX6.out).cell
      have fv := (boxed_to HV.out HX6.out).frozen
      have HO6 := Lib.hid (own_below HOW.out HX6.out (Nat.le_refl _))
      clear hy1 her c0 f0 c1 f1
      gi_step
      iterate 12 gi_step
      refine wpListIn_storeNew rfl _ _ 38 rfl _ (evE X).toArray evt_info3 (by rfl) (by rfl) rfl (evt_oneP X) ?_
      rw [S6.out]
      dsimp only [Act.put]
      gi_wp2_with (refine wpListIn_loadC rfl _ 38 rfl w5.heap.size 38 (evE X) _ Tryz.underlying38 rfl evt_info3 (by rfl) HE6.out ?_; dsimp only [Act.put]; (iterate 3 gi_step); refine wpListIn_buildTo rfl _ _ rfl _ rfl (entE ⟨x1, X, baA b'⟩).toArray (by kernel_rfl) ?_; dsimp only [Act.put]; refine wpListIn_buildE Tryz.enElem rfl 1 _ rfl [⟨x1, X, baA b'⟩] rfl (by decide) (by decide) (by rfl) ?_; dsimp only [Act.put]; rw [show [(⟨x1, X, baA b'⟩ : Ent)].flatMap entE = entE ⟨x1, X, baA b'⟩ from List.append_nil _]; refine wpListIn_app1 Tryz.enElem _ rfl (.tmp 57) (.tmp 62) rfl w.heap.size A cp out (by rfl) (own_below HO6.out (cur_new _ _) (Nat.le_refl _)) ⟨x1, X, baA b'⟩ W6.heap.size 1 (by rfl) (heap_alloc_new W6 _) (by have := HOL.out; unfold maxLen; omega) (by have := HOL.out; omega) (by have := HX6.out.size; have := HS.out.below.size; have := (cur_new W6 (.cells (entE ⟨x1, X, baA b'⟩).toArray 40)).size; omega) ?_; intro g2 cap w7 ha; obtain ⟨hc7, HZ⟩ := pc_good' HS.out HX6.out HV.out HOW.out HRW.out HF.out ha (w.heap.size + 4); have HZ := Lib.hid HZ; have cc7 := hc7.cell; have ff7 := hc7.frozen; clear ha hc7 cv fv; dsimp only [Act.put])
      exact HZ.out
    · have HF := Lib.hid (show fldA (trimL (lmB x)) = none by rw [HFF.out, if_neg hg])
      cases fa
      · clear hg
        gi_step
        iterate 12 gi_step
        refine wpListIn_storeNew rfl _ _ 38 rfl _ (evE X).toArray evt_info3 (by rfl) (by rfl) rfl (evt_oneP X) ?_
        rw [S6.out]
        dsimp only [Act.put]
        gi_wp2
        exact ⟨(pc_bad HS.out HX6.out HF.out _).1, rfl, (pc_bad HS.out HX6.out HF.out W0.heap.size).2⟩
      · cases fb
        · clear hg
          gi_step
          iterate 12 gi_step
          refine wpListIn_storeNew rfl _ _ 38 rfl _ (evE X).toArray evt_info3 (by rfl) (by rfl) rfl (evt_oneP X) ?_
          rw [S6.out]
          dsimp only [Act.put]
          gi_wp2
          exact ⟨(pc_bad HS.out HX6.out HF.out _).1, rfl, (pc_bad HS.out HX6.out HF.out W0.heap.size).2⟩
        · by_cases hy1 : y1 = 0
          · have her : ¬ er = 0 := fun e => hg ⟨rfl, rfl, hy1, e⟩
            have g1 : (y1 != 0) = false := by simpa using hy1
            have g2 : (er != 0) = true := by simpa using her
            clear hg hy1 her
            gi_step
            iterate 12 gi_step
            refine wpListIn_storeNew rfl _ _ 38 rfl _ (evE X).toArray evt_info3 (by rfl) (by rfl) rfl (evt_oneP X) ?_
            rw [S6.out]
            dsimp only [Act.put]
            gi_wp2
            exact ⟨(pc_bad HS.out HX6.out HF.out _).1, rfl, (pc_bad HS.out HX6.out HF.out W0.heap.size).2⟩
          · have g1 : (y1 != 0) = true := by simpa using hy1
            clear hg hy1
            gi_step
            iterate 12 gi_step
            refine wpListIn_storeNew rfl _ _ 38 rfl _ (evE X).toArray evt_info3 (by rfl) (by rfl) rfl (evt_oneP X) ?_
            rw [S6.out]
            dsimp only [Act.put]
            gi_wp2
            exact ⟨(pc_bad HS.out HX6.out HF.out _).1, rfl, (pc_bad HS.out HX6.out HF.out W0.heap.size).2⟩
  case done =>
    rintro D xs W hD hS hI hK
    obtain ⟨v, out, hv, how, hrw⟩ := hI.out
    have hxs : (xs.map fun x => trimL (lmB x)) = rowsR (splitC 10 s.data.toList) := by
      rw [← linesC_trim, ← hS, List.map_map]; rfl
    rw [hxs] at hrw
    have hsl : s.data.toList.length = s.size := by simp
    obtain ⟨hsm, hlen⟩ := linesC_small _ s.data.toList (Nat.le_refl _)
    have hrs : ∀ r ∈ rowsR (splitC 10 s.data.toList), r.length ≤ 10000 := by
      rw [← linesC_trim]
      intro r hr
      obtain ⟨y, hy, rfl⟩ := List.mem_map.1 hr
      have h2 := hsm y hy
      unfold trimL; split
      · rw [List.length_dropLast]; omega
      · omega
    obtain ⟨hz1, hz2⟩ := rowsA_size (n := 10000) hrw hrs
    rw [← hxs, List.length_map] at hz2
    have hle9 : out.length ≤ 20000 := by
      have h3 : xs.length = (linesC s.data.toList).length := by rw [← hS, List.length_map]
      omega
    obtain ⟨A, cp, rfl, hrd, _⟩ := OwnL.rd entE_len how
    rw [HRR.out] at hrw
    obtain ⟨T, eT, hT⟩ : ∃ T e, TxtA out = (T, e) := ⟨_, _, rfl⟩
    have HT := Lib.hid hT
    have HRW := Lib.hid hrw
    have HZ1 := Lib.hid hz1
    have HRD := Lib.hid hrd
    have HI := Lib.hid hI
    have HL := Lib.hid (HLW.out.to hI.below)
    have HV := Lib.hid hv
    have HO := Lib.hid how
    have HK := Lib.hid hK
    have cv : W.cell? ⟨w.heap.size + 1 + 1, 0, none⟩ = some (.slice A out.length cp) := hv.cell
    have hDW := (Array.getElem?_eq_some_iff.1 hK).1
    clear hS hI hK hv how hrw hxs hsl hsm hlen hrs hz1 hz2 hrd hT
    gi_wp2_with fail
    refine ⟨trivial, ?_⟩
    refine (callsIn_wide.2 (text_ap A cp out _ (by omega) HRD.out (fun z hz => by have := (HZ1.out z hz).1; omega) (fun z hz => (HZ1.out z hz).2.1) HL.out)).mono ?_
    rintro e w2 ⟨rfl, hb2⟩
    rw [HT.out]
    (try simp only [])
    have HX := Lib.hid hb2
    have c0 := (boxed_to HI.out.r0 hb2).cell
    have f0 := (boxed_to HI.out.r0 hb2).frozen
    have c1 := (boxed_to HI.out.r1 hb2).cell
    have f1 := (boxed_to HI.out.r1 hb2).frozen
    have cv2 : w2.cell? ⟨w.heap.size + 1 + 1, 0, none⟩ = some (.slice A out.length cp) := (boxed_to HV.out hb2).cell
    clear hb2 hle9 cv
    by_cases g : eT = 0
    · have g1 : (eT != 0) = false := by rw [g]; rfl
      by_cases g5 : T = s.data.toList
      · have g2 : (T == s.toList) = true := by rw [ByteArray.toList_eq, g5]; simp
        have HP := Lib.hid (show ParA R s.data.toList = (out, 0) by unfold ParA; rw [HRW.out]; simp only []; rw [HT.out, if_pos ⟨g, g5⟩])
        clear g5
        gi_wp2_with fail
        refine ⟨by simp, .inl ⟨_, _, rfl, run_takeDeferred (((KeepsOthers.setCell _ _ _).trans (KeepsOthers.setCell _ _ _)).same D _ ((HX.out.block D hDW).trans HK.out) rfl), ?_⟩⟩
        exact pc_fin rfl rfl (HI.out.below.trans (HX.out.mono HI.out.below.size)) (boxed_to HI.out.r0 HX.out) (boxed_to HI.out.r1 HX.out) ((HX.out.block D hDW).trans HK.out) (by omega) (own_below HO.out HX.out (Nat.le_refl _)) HP.out
      · have g2 : (T == s.toList) = false := by rw [ByteArray.toList_eq]; exact beq_false_of_ne g5
        have HP := Lib.hid (show ParA R s.data.toList = ([], 4) by unfold ParA; rw [HRW.out]; simp only []; rw [HT.out, if_neg (fun h => g5 h.2)])
        clear g5
        gi_wp2_with fail
        refine ⟨by simp, .inl ⟨_, _, rfl, run_takeDeferred (((KeepsOthers.setCell _ _ _).trans (KeepsOthers.setCell _ _ _)).same D _ ((HX.out.block D hDW).trans HK.out) rfl), ?_⟩⟩
        exact pc_fin rfl rfl (HI.out.below.trans (HX.out.mono HI.out.below.size)) (boxed_to HI.out.r0 HX.out) (boxed_to HI.out.r1 HX.out) ((HX.out.block D hDW).trans HK.out) (by omega) ⟨rfl, .inl ⟨rfl, rfl⟩⟩ HP.out
    · have g1 : (eT != 0) = true := by simpa using g
      have HP := Lib.hid (show ParA R s.data.toList = ([], 4) by unfold ParA; rw [HRW.out]; simp only []; rw [HT.out, if_neg (fun h => g h.1)])
      clear g
      gi_wp2_with fail
      refine ⟨by simp, .inl ⟨_, _, rfl, run_takeDeferred (((KeepsOthers.setCell _ _ _).trans (KeepsOthers.setCell _ _ _)).same D _ ((HX.out.block D hDW).trans HK.out) rfl), ?_⟩⟩
      exact pc_fin rfl rfl (HI.out.below.trans (HX.out.mono HI.out.below.size)) (boxed_to HI.out.r0 HX.out) (boxed_to HI.out.r1 HX.out) ((HX.out.block D hDW).trans HK.out) (by omega) ⟨rfl, .inl ⟨rfl, rfl⟩⟩ HP.out
  case stop =>
    rintro D c pre W hD hS ⟨rfl, hI⟩ hK
    have hbad : rowsA (rowsR (splitC 10 s.data.toList)) = none := by
      obtain ⟨t, ht⟩ := hS
      rw [← linesC_trim, ← ht, List.map_append, rowsA_append]
      rw [show (pre.map lmB).map trimL = pre.map fun x => trimL (lmB x) from by rw [List.map_map]; rfl, hI.bad]
    have HP := Lib.hid (show ParA (rowsR (splitC 10 s.data.toList)) s.data.toList = ([], 4) by unfold ParA; rw [hbad])
    rw [HRR.out] at HP
    gi_wp2_with fail
    refine ⟨by simp, .inl ⟨_, _, rfl, run_takeDeferred hK, ?_⟩⟩
    have hb9 := hI.below
    exact pc_end rfl rfl (boxed_put _ hI.r0 hK rfl) (boxed_put _ hI.r1 hK rfl) (hb9.grown (grownBy_putObj' _ D _) hb9.size (fun k e => by cases e; omega)) ⟨rfl, .inl ⟨rfl, rfl⟩⟩ HP.out
end
end Go.Proofs.YtdbiihfoafoljaaGreatDoor
