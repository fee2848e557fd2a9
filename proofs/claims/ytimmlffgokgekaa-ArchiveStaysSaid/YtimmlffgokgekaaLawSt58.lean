/-
  Chapter 58: ArchiveStays: the walk.
-/
import Derived.Test.YtimmlffgokgekaaComC58
import Derived.Test.YtimmlffgokgekaaAwkM
set_option linter.unusedSimpArgs false
set_option linter.unusedVariables false
namespace Go.Proofs.Ytimmlffgokgekaa
open Go.RowKit
set_option maxRecDepth 100000
set_option maxHeartbeats 20000000
def keE (f : Fl) : List Value := [.slice f.a f.l.length f.c]
theorem keE_len (f : Fl) : (keE f).length = 1 := rfl
theorem Try.infoKe : (Try.prog.info? 22).map (fun i => (i.zero, i.size, i.bytes)) = some (some (.slice none 0 0), 1, 24) := by kernel_rfl
theorem Try.keElem : ElemOf Try.prog keE 1 24 75 22 := .mk' Try.infoKe rfl Try.underlying75 (by decide) keE_len (fun x u hu => by simp [keE] at hu; subst hu; rfl)
/-- A block that is none of theirs. -/
structure Av (bA : Nat) (V : Option Addr) (c : Nat) (vs : List Vr) (K : Option Addr) (kc : Nat) (ks : List Fl) (x : Nat) : Prop where
  a : bA ≠ x
  v : (Value.slice V vs.length c).ownBlock ≠ some x
  k : (Value.slice K ks.length kc).ownBlock ≠ some x
  fv : ∀ v ∈ vs, ∀ b o, v.a = some ⟨b, o, none⟩ → b ≠ x
  fk : ∀ f ∈ ks, ∀ b o, f.a = some ⟨b, o, none⟩ → b ≠ x
structure StG (bA : Nat) (V : Option Addr) (c : Nat) (vs : List Vr) (K : Option Addr) (kc : Nat) (ks : List Fl) (w : World) : Prop where
  arc : ArcS bA bA V c vs w
  kept : OwnL keE 1 22 bA w (.slice K ks.length kc) ks
  kA : ∀ b, (Value.slice K ks.length kc).ownBlock = some b → b ≠ bA ∧ (Value.slice V vs.length c).ownBlock ≠ some b
  kv : ∀ v ∈ vs, ∀ b o, v.a = some ⟨b, o, none⟩ → (Value.slice K ks.length kc).ownBlock ≠ some b
  rd : ∀ f ∈ ks, Rd entE 21 w w.heap.size f.a f.l
  away : ∀ f ∈ ks, ∀ b o, f.a = some ⟨b, o, none⟩ → b ≠ bA ∧ (Value.slice V vs.length c).ownBlock ≠ some b ∧ (Value.slice K ks.length kc).ownBlock ≠ some b ∧ b < w.heap.size
theorem StG.to {bA : Nat} {V : Option Addr} {c : Nat} {vs : List Vr} {K : Option Addr} {kc : Nat} {ks : List Fl} {w w' : World} (h : StG bA V c vs K kc ks w) (hb : Below w.heap.size w w') : StG bA V c vs K kc ks w' :=
  ⟨h.arc.to hb, own_below h.kept hb (Nat.le_refl _), h.kA, h.kv, fun f hf => (h.rd f hf).to hb, fun f hf b o e => by obtain ⟨a1, a2, a3, a4⟩ := h.away f hf b o e; exact ⟨a1, a2, a3, Nat.lt_of_lt_of_le a4 hb.size⟩⟩
theorem StG.fresh {bA : Nat} {V : Option Addr} {c : Nat} {vs : List Vr} {K : Option Addr} {kc : Nat} {ks : List Fl} {w : World} (h : StG bA V c vs K kc ks w) {x : Nat} (hx : w.heap.size ≤ x) : Av bA V c vs K kc ks x := by
  have hl := h.arc.blk.lt
  refine ⟨by omega, fun e => ?_, fun e => ?_, fun v hv b o e => ?_, fun f hf b o e => ?_⟩
  · have := (own_range h.arc.own x e).2; omega
  · have := (own_range h.kept x e).2; omega
  · have := h.arc.lt v hv b o e; omega
  · have := (h.away f hf b o e).2.2.2; omega
/-- A change in a block that is none of theirs. -/
theorem StG.far1 {bA : Nat} {V : Option Addr} {c : Nat} {vs : List Vr} {K : Option Addr} {kc : Nat} {ks : List Fl} {w w' : World} {x : Nat} (h : StG bA V c vs K kc ks w) (ha : Av bA V c vs K kc ks x) (hf : Far [x] w w') : StG bA V c vs K kc ks w' :=
  ⟨h.arc.far hf (by simp; exact ha.a) (fun b hb => by simp; intro e; exact ha.v (by rw [hb, e])) (fun v hv b o e => by simp; exact ha.fv v hv b o e),
   own_far h.kept hf (fun b hb => by simp; intro e; exact ha.k (by rw [hb, e])), h.kA, h.kv, fun f hf' => rd_far (h.rd f hf') hf (fun b o e => by simp; exact ha.fk f hf' b o e),
   fun f hf' b o e => by obtain ⟨a1, a2, a3, a4⟩ := h.away f hf' b o e; exact ⟨a1, a2, a3, Nat.lt_of_lt_of_le a4 hf.size⟩⟩
theorem notin2 {bA : Nat} {V : Option Addr} {n c b : Nat} (h1 : b ≠ bA) (h2 : (Value.slice V n c).ownBlock ≠ some b) : b ∉ (bA :: (Value.slice V n c).ownBlock.toList) := by
  intro hx
  rcases List.mem_cons.1 hx with e | e
  · exact h1 e
  · cases ho : (Value.slice V n c).ownBlock with
    | none => rw [ho] at e; simp at e
    | some y => rw [ho] at e; simp at e; exact h2 (by rw [ho, e])
theorem StG.com {bA : Nat} {V : Option Addr} {c : Nat} {vs : List Vr} {K : Option Addr} {kc : Nat} {ks : List Fl} {u1 u2 : World} {V' : Option Addr} {c' : Nat} {vs' : List Vr} (h : StG bA V c vs K kc ks u1) (hA' : ArcS bA bA V' c' vs' u2) (hfar : Far (bA :: (Value.slice V vs.length c).ownBlock.toList) u1 u2)
    (hV : ∀ b, (Value.slice V' vs'.length c').ownBlock = some b → (Value.slice V vs.length c).ownBlock = some b ∨ u1.heap.size ≤ b) (hvs : ∀ v ∈ vs', v ∈ vs ∨ ∀ b o, v.a = some ⟨b, o, none⟩ → u1.heap.size ≤ b) :
    StG bA V' c' vs' K kc ks u2 ∧ ∀ x, x < u1.heap.size → Av bA V c vs K kc ks x → Av bA V' c' vs' K kc ks x := by
  have hown : ∀ b, b < u1.heap.size → (Value.slice V vs.length c).ownBlock ≠ some b → (Value.slice V' vs'.length c').ownBlock ≠ some b := fun b hb hn e => by
    rcases hV b e with h1 | h1
    · exact hn h1
    · omega
  refine ⟨⟨hA', own_far h.kept hfar (fun b hb => notin2 (h.kA b hb).1 (h.kA b hb).2), fun b hb => ⟨(h.kA b hb).1, hown b (own_range h.kept b hb).2 (h.kA b hb).2⟩, fun v hv b o e hk => ?_, fun f hf => rd_far (h.rd f hf) hfar (fun b o e => notin2 (h.away f hf b o e).1 (h.away f hf b o e).2.1), fun f hf b o e => ?_⟩, fun x hx ha => ⟨ha.a, hown x hx ha.v, ha.k, fun v hv b o e => ?_, ha.fk⟩⟩
  · rcases hvs v hv with h1 | h1
    · exact h.kv v h1 b o e hk
    · have := h1 b o e; have := (own_range h.kept b hk).2; omega
  · obtain ⟨a1, a2, a3, a4⟩ := h.away f hf b o e
    exact ⟨a1, hown b a4 a2, a3, Nat.lt_of_lt_of_le a4 hfar.size⟩
  · rcases hvs v hv with h1 | h1
    · exact ha.fv v h1 b o e
    · have := h1 b o e; omega
/-- One more file kept. -/
theorem StG.app {bA : Nat} {V : Option Addr} {c : Nat} {vs : List Vr} {K : Option Addr} {kc : Nat} {ks : List Fl} {u u1 w8 : World} {z : Fl} {g cap : Nat} (h : StG bA V c vs K kc ks u) (hu1 : Below u.heap.size u u1) (hrd : Rd entE 21 u u.heap.size z.a z.l)
    (haw : ∀ b o, z.a = some ⟨b, o, none⟩ → b ≠ bA ∧ (Value.slice V vs.length c).ownBlock ≠ some b ∧ (Value.slice K ks.length kc).ownBlock ≠ some b ∧ b < u.heap.size)
    (ha : App u1 w8 bA 22 1 (.slice K ks.length kc) g cap ks.length 1 (ks.flatMap keE) (keE z)) :
    StG bA V c vs (some ⟨g, 0, none⟩) cap (ks ++ [z]) w8 ∧ ∀ x, x < u.heap.size → (∀ b o, z.a = some ⟨b, o, none⟩ → b ≠ x) → Av bA V c vs K kc ks x → Av bA V c vs (some ⟨g, 0, none⟩) cap (ks ++ [z]) x := by
  have h1 := h.to hu1
  have hs1 := hu1.size
  have hs8 := ha.grown.size
  have hlA := h.arc.blk.lt
  have hfar : Far (Value.slice K ks.length kc).ownBlock.toList u1 w8 := Far.grown ha.grown (fun b hb => by rw [hb]; simp)
  have hnk : ∀ b, (Value.slice K ks.length kc).ownBlock ≠ some b → b ∉ (Value.slice K ks.length kc).ownBlock.toList := fun b hb hx => by
    cases ho : (Value.slice K ks.length kc).ownBlock with
    | none => rw [ho] at hx; simp at hx
    | some y => rw [ho] at hx; simp at hx; exact hb (by rw [ho, hx])
  have hg : ∀ b, g = b → (Value.slice K ks.length kc).ownBlock = some b ∨ u.heap.size ≤ b := fun b e => by
    rcases ha.at_ with h2 | h2
    · exact Or.inl (by rw [h2, e])
    · exact Or.inr (by omega)
  have hgn : ∀ b, b < u.heap.size → (Value.slice K ks.length kc).ownBlock ≠ some b → (Value.slice (some ⟨g, 0, none⟩) (ks ++ [z]).length cap).ownBlock ≠ some b := fun b hb hn e => by
    rcases hg b (Option.some.inj (show some g = some b from e)) with h2 | h2
    · exact hn h2
    · omega
  have hkbA : (Value.slice K ks.length kc).ownBlock ≠ some bA := fun e => (h.kA bA e).1 rfl
  have hall : ∀ f ∈ ks ++ [z], Rd entE 21 u u.heap.size f.a f.l ∧ ∀ b o, f.a = some ⟨b, o, none⟩ → b ≠ bA ∧ (Value.slice V vs.length c).ownBlock ≠ some b ∧ (Value.slice K ks.length kc).ownBlock ≠ some b ∧ b < u.heap.size := by
    intro f hf
    rcases List.mem_append.1 hf with hf | hf
    · exact ⟨h.rd f hf, h.away f hf⟩
    · simp at hf; subst hf; exact ⟨hrd, haw⟩
  refine ⟨⟨h1.arc.far hfar (hnk bA hkbA) (fun b hb => hnk b (fun e => (h.kA b e).2 hb)) (fun v hv b o e => hnk b (h.kv v hv b o e)), ?_, fun b hb => ?_, fun v hv b o e => hgn b (h.arc.lt v hv b o e) (h.kv v hv b o e), fun f hf => ?_, fun f hf b o e => ?_⟩, fun x hx hz hav => ⟨hav.a, hav.v, hgn x hx hav.k, hav.fv, fun f hf b o e => ?_⟩⟩
  · have ho : OwnL keE 1 22 bA w8 (.slice (some ⟨g, 0, none⟩) (ks.length + 1) cap) (ks ++ [z]) := ha.one rfl
    rw [List.length_append]
    exact ho
  · rcases hg b (Option.some.inj (show some g = some b from hb)) with h2 | h2
    · exact h.kA b h2
    · exact ⟨by omega, fun e => by have := (own_range h.arc.own b e).2; omega⟩
  · exact rd_far ((hall f hf).1.to hu1) hfar (fun b o e => hnk b ((hall f hf).2 b o e).2.2.1)
  · obtain ⟨a1, a2, a3, a4⟩ := (hall f hf).2 b o e
    exact ⟨a1, a2, hgn b a4 a3, by omega⟩
  · rcases List.mem_append.1 hf with hf | hf
    · exact hav.fk f hf b o e
    · simp at hf; subst hf; exact hz b o e
theorem commit_n (w : World) (k : Int) (A : Option Addr) (n c : Nat) : Calls Try.prog 25 #[.pointer none, .int .i64 k, .slice A n c] w fun e w' => e = .returned (.tuple #[.int .i64 0, .slice none 0 0, .int .i64 1]) ∧ Below w.heap.size w w' := by
  go_enter Try.func25, Try.ntmps25
  go_wp2_with (fail)
  go_ret3
  exact ⟨rfl, Below.refl _ _⟩
theorem get_n (w : World) (k : Int) : Calls Try.prog 29 #[.pointer none, .int .i64 k] w fun e w' => e = .returned (.tuple #[.slice none 0 0, .int .i64 1]) ∧ Below w.heap.size w w' := by
  go_enter Try.func29, Try.ntmps29
  go_wp2_with (fail)
  refine (check_n w k).mono ?_
  rintro e w1 ⟨rfl, hb1⟩
  have HB := Lib.hid hb1
  clear hb1
  go_wp2_with (fail)
  go_ret2
  exact ⟨rfl, HB.out⟩
theorem base_n (w : World) (k : Int) : Calls Try.prog 31 #[.pointer none, .int .i64 k] w fun e w' => e = .returned (.tuple #[.int .i64 0, .int .i64 1]) ∧ Below w.heap.size w w' := by
  go_enter Try.func31, Try.ntmps31
  go_wp2_with (fail)
  refine (check_n w k).mono ?_
  rintro e w1 ⟨rfl, hb1⟩
  have HB := Lib.hid hb1
  clear hb1
  go_wp2_with (fail)
  go_ret2
  exact ⟨rfl, HB.out⟩
theorem cm_info : (Try.prog.info? 62).map (·.size) = some 2 := by kernel_rfl
theorem comV_len (vs : List Vr) (base : Int) (f : List Ent) : (comV vs base f).length ≤ vs.length + 1 := by
  unfold comV; split <;> simp
theorem own_some {w : World} {B e size n c : Nat} {A : Option Addr} {xs : List Value} (h : w.ownsRow B e size (.slice A n c) n xs) (hn : 0 < n) : ∃ g, A = some ⟨g, 0, none⟩ := by
  rcases h.2 with ⟨_, h0⟩ | ⟨g, cap, cur, hv, _⟩
  · omega
  · injection hv with h1; exact ⟨g, h1⟩
theorem StG.faro {bA : Nat} {V : Option Addr} {c : Nat} {vs : List Vr} {K : Option Addr} {kc : Nat} {ks : List Fl} {w w' : World} {o : Option Nat} (h : StG bA V c vs K kc ks w) (ha : ∀ x, o = some x → Av bA V c vs K kc ks x) (hf : Far o.toList w w') : StG bA V c vs K kc ks w' := by
  cases o with
  | some x => exact h.far1 (ha x rfl) hf
  | none => exact h.far1 (h.fresh (Nat.le_refl _)) ⟨hf.os, hf.tape, hf.output, hf.size, fun b hb _ => hf.block b hb (by simp)⟩
/-- A row of the call's own is written over, cell by cell. -/
def CuR (B e n : Nat) (v : Value) (u : World) (iv : Value) (wr : World) : Prop := ∃ j : Nat, j ≤ n ∧ iv = .int .i64 j ∧ Far v.ownBlock.toList u wr ∧ ∃ xs, wr.ownsRow B e 21 v n xs
theorem cu_next {B e n j off : Nat} {g d : Nat} {u wr : World} {x : Value} {xs : List Value} (hj : j < n) (hf : Far (Value.slice (some ⟨g, 0, none⟩) n d).ownBlock.toList u wr) (ho : wr.ownsRow B e 21 (.slice (some ⟨g, 0, none⟩) n d) n xs) :
    CuR B e n (.slice (some ⟨g, 0, none⟩) n d) u (.int .i64 ((j + 1 : Nat) : Int)) (wr.setCell ⟨g, off, none⟩ x) := by
  obtain ⟨h1, h2⟩ := ho.stored off x
  exact ⟨j + 1, by omega, rfl, hf.trans (Far.cell g off x) (fun y hy => Or.inl (by simp at hy; subst hy; show y ∈ (some y).toList; simp)), _, h1⟩
theorem cu_at {B e n j off : Nat} {g d : Nat} {wr : World} {xs : List Value} (hj : j < n) (ho : wr.ownsRow B e 21 (.slice (some ⟨g, 0, none⟩) n d) n xs) (hoff : off < 21) : ∃ y, wr.cell? ⟨g, j * 21 + off, none⟩ = some y := by
  have h1 := ho.cellAt (j * 21 + off) (by omega)
  have hl : xs.length = n * 21 := ho.1
  have h2 : j * 21 + off < xs.length := by omega
  exact ⟨_, h1.trans (List.getElem?_eq_getElem h2)⟩
def StR (bA : Nat) (w : World) (n : Nat) (v iv : Value) (wr : World) : Prop :=
  ∃ (k : Nat) (V : Option Addr) (c : Nat) (vs : List Vr) (K : Option Addr) (kc : Nat) (ks : List Fl), k ≤ n ∧ v = .slice K ks.length kc ∧ iv = .int .i64 k ∧ vs.length ≤ k ∧ StG bA V c vs K kc ks wr ∧ Below w.heap.size w wr ∧ ks.map Fl.l = vs.map Vr.l ∧ LenV (vs.map prV)
theorem len_pr {vs : List Vr} {ks : List Fl} (h : ks.map Fl.l = vs.map Vr.l) : ks.length = vs.length := by have := congrArg List.length h; simpa using this
theorem file_at {vs : List Vr} {ks : List Fl} (h : ks.map Fl.l = vs.map Vr.l) {i : Nat} {z : Fl} (hz : ks[i]? = some z) : fileV vs ((i : Int) + 1) = z.l ∧ chkV vs.length ((i : Int) + 1) = 0 := by
  have hl := len_pr h
  have hi := (List.getElem?_eq_some_iff.1 hz).1
  have hb : hasB vs.length ((i : Int) + 1) = true := by unfold hasB; simp; omega
  have h1 := congrArg (·[i]?) h
  simp only [List.getElem?_map, hz, Option.map_some] at h1
  refine ⟨?_, by unfold chkV; rw [if_pos hb]⟩
  unfold fileV
  rw [if_pos hb, show ((i : Int) + 1).toNat - 1 = i by omega, ← h1]
  rfl
theorem law_stays (A0 : Option Addr) (c0 : Nat) (l : List Vr) (k8 : Int) (w : World) (hl : l.length ≤ c0) (hc : c0 ≤ 9223372036854775807) (hq : ∀ z ∈ l, z.l.length ≤ z.c ∧ z.c ≤ 9223372036854775807 ∧ Rd entE 21 w w.heap.size z.a z.l ∧ ∀ x ∈ z.l, x.sc.size ≤ 9223372036854775807) (hrd : Rd verE 2 w w.heap.size A0 l) :
    Calls Try.prog 7 #[.slice A0 l.length c0, .int .u8 k8] w fun e w' => e = .returned (.bool true) ∧ Below w.heap.size w w' := by
  obtain ⟨n, hn0⟩ : ∃ n, l.length = n := ⟨_, rfl⟩
  rw [hn0] at hl ⊢
  obtain ⟨m, hm0⟩ : ∃ m, l.take 6 = m := ⟨_, rfl⟩
  have hlen : min n 6 = m.length := by rw [← hm0, ← hn0]; simp; omega
  have HQ := Lib.hid (show ∀ z ∈ m, z.l.length ≤ z.c ∧ z.c ≤ 9223372036854775807 ∧ Rd entE 21 w w.heap.size z.a z.l ∧ ∀ x ∈ z.l, x.sc.size ≤ 9223372036854775807 by intro z hz; rw [← hm0] at hz; exact hq z (List.mem_of_mem_take hz))
  have HRD := Lib.hid (show Rd verE 2 w w.heap.size A0 m by rw [← hm0]; exact hrd.pre 6)
  have hm6 : m.length ≤ 6 := by omega
  have hmin : min (n : Int) 6 = (m.length : Nat) := by omega
  have h1 : (m.length : Int) ≤ c0 := by omega
  have h2 : ¬ (c0 : Int) < m.length := by omega
  clear hq hrd hm0 hn0 hlen
  go_enter Try.func7, Try.ntmps7
  go_wp2_with (fail)
  refine (awake_p w).mono ?_
  rintro e w1 ⟨rfl, hb1⟩
  have HB1 := Lib.hid hb1
  clear hb1
  go_wp2_with (fail)
  refine (new_p w1).mono ?_
  rintro e w2 ⟨rfl, hA2, hb2⟩
  have HA2 := Lib.hid hA2
  have HB2 := Lib.hid hb2
  have HB02 := Lib.hid (cur_step1 HB1.out hb2)
  have HW1 := Lib.hid (show w1.heap.size < w2.heap.size from hA2.blk.lt)
  clear hA2 hb2
  obtain ⟨bA, hbA⟩ : ∃ y, w1.heap.size = y := ⟨_, rfl⟩
  have HWA := Lib.hid (show w.heap.size ≤ bA by rw [← hbA]; exact HB1.out.size)
  rw [hbA] at HA2 HW1 ⊢
  clear hbA
  go_wp2_with (fail)
  have HI2 := Lib.hid (show StG bA none 0 [] none 0 [] w2 from
    ⟨HA2.out, World.ownsRow_nil _ _ _ _, (fun b e => by cases e), (fun v hv => by cases hv), (fun v hv => by cases hv), (fun v hv => by cases hv)⟩)
  go_loopw [6, 38] (StR bA w m.length) (fun _ i _ => m.length - (intOf i).toNat)
  case atStart => exact ⟨0, _, _, _, _, _, _, by omega, rfl, rfl, by decide, HI2.out, HB02.out, rfl, ⟨(fun i p hp => by simp at hp), (fun p hp => by simp at hp)⟩⟩
  case round =>
    clear HI2 HB02
    obtain ⟨k, V, c, vs, K, kc, ks, hk, rfl, rfl, hvk, hI, hb, hsm, hlv⟩ := hrel
    have HSM := Lib.hid hsm
    have HKL := Lib.hid (len_pr hsm)
    have HLV := Lib.hid hlv
    have HI := Lib.hid hI
    have HB := Lib.hid hb
    clear hI hb hsm hlv
    by_cases hkl : k < m.length
    · obtain ⟨z, hz⟩ : ∃ z, m[k]? = some z := ⟨_, List.getElem?_eq_getElem hkl⟩
      have hk6 : k < 6 := by omega
      obtain ⟨b2, off2, hA0, hb2l, hc2⟩ := rd_at HRD.out HB.out hz
      subst hA0
      have HRA := Lib.hid hc2
      have HZ := Lib.hid (HQ.out z (List.mem_of_getElem? hz))
      clear hc2 hz
      obtain ⟨W6, hW6⟩ : ∃ y, wr.alloc (.cells (verE z).toArray 62) = y := ⟨_, rfl⟩
      have hb6 : Below wr.heap.size wr W6 := by rw [← hW6]; exact cur_new _ _
      have HX6 := Lib.hid (show Blk W6 wr.heap.size 62 (verE z) by rw [← hW6]; exact Blk.new wr _ _)
      have S6 := Lib.hid hW6
      have HB6 := Lib.hid (cur_step1 HB.out hb6)
      have HI6 := Lib.hid (HI.out.to hb6)
      clear hW6 hb6
      go_upto_region 8 with (first | (refine wpList_load_mid rfl 62 _ rfl b2 (off2 + k * 2) (by rfl) (verE z) _ HRA.out (by rfl) (by rfl) cm_info ?_) | (refine wpList_storeNew rfl _ _ 62 rfl _ (verE z).toArray cm_info (by rfl) (by rfl) rfl (by simp [verE, Value.oneCell']) ?_; rw [S6.out]))
      obtain ⟨b6, hb6⟩ : ∃ y, wr.heap.size = y := ⟨_, rfl⟩
      have HBN := Lib.hid (show w.heap.size ≤ b6 by rw [← hb6]; exact HB.out.size)
      have HIL := Lib.hid (show bA < b6 by rw [← hb6]; exact HI.out.arc.blk.lt)
      have HVB := Lib.hid (show ∀ x, (Value.slice V vs.length c).ownBlock = some x → x < b6 by rw [← hb6]; exact fun x hx => (own_range HI.out.arc.own x hx).2)
      rw [hb6] at HX6 ⊢
      clear hb6 S6
      have z0 : W6.cell? ⟨b6, 0, none⟩ = some (.int .i64 z.base) := HX6.out.cell 0
      have z1 : W6.cell? ⟨b6, 1, none⟩ = some (.slice z.a z.l.length z.c) := HX6.out.cell 1
      have zl := HX6.out.lt
      go_wp2_with (fail)
      obtain ⟨f, hf⟩ : ∃ f, fewA z.l = f := ⟨_, rfl⟩
      have HF12 := Lib.hid (show f.length ≤ 12 by rw [← hf]; exact fewA_len z.l)
      have HFS := Lib.hid (show ∀ x ∈ f, x.sc.size ≤ 20 by rw [← hf]; exact fewA_sc z.l)
      have HF := Lib.hid hf
      clear hf
      have hv5 : vs.length ≤ 5 := by omega
      refine (few_p z.l z.a z.c W6 HZ.out.1 HZ.out.2.1 HZ.out.2.2.2 (HZ.out.2.2.1.to HB6.out)).mono ?_
      rw [HF.out]
      rintro e u1 ⟨⟨v1, rfl, ho1⟩, hb1⟩
      obtain ⟨A1, d1, hv1⟩ := own_form ho1
      subst hv1
      have HO1 := Lib.hid (show OwnL entE 21 39 W6.heap.size u1 (.slice A1 f.length d1) f from ho1)
      obtain ⟨A1', d1', e1, hr1, hx1⟩ := OwnL.rd entE_len ho1
      injection e1 with e1 _ e2
      subst e1 e2
      have HR1 := Lib.hid hr1
      have HG1 := Lib.hid (HI6.out.to hb1)
      have HAV1 := Lib.hid (show ∀ x, (Value.slice A1 f.length d1).ownBlock = some x → Av bA V c vs K kc ks x from fun x hx => HI6.out.fresh (own_range ho1 x hx).1)
      have HBO1 := Lib.hid (show ∀ x, (Value.slice A1 f.length d1).ownBlock = some x → w.heap.size ≤ x from fun x hx => Nat.le_trans HB6.out.size (own_range ho1 x hx).1)
      have HB1' := Lib.hid (cur_step1 HB6.out hb1)
      have HX1 := Lib.hid (HX6.out.to hb1)
      have z0 : u1.cell? ⟨b6, 0, none⟩ = some (.int .i64 z.base) := HX1.out.cell 0
      have zl := HX1.out.lt
      clear hx1 hr1 ho1 hb1
      go_wp2_with (fail)
      refine (commit_c bA bA V c vs z.base A1 d1 f u1 (by have := HG1.out.arc.blk.lt; omega) (by omega) HF12.out HFS.out HR1.out HG1.out.arc HLV.out.all (HLV.out.sum hv5 HF12.out)).mono ?_
      rintro e u2 ⟨V', c', vs', A2, c2, rfl, hr2, hA', hpr, hfar, hV', hvs', hA2⟩
      have hcom := HG1.out.com hA' hfar hV' hvs'
      have HG2 := Lib.hid hcom.1
      have HAV2 := Lib.hid (show ∀ x, (Value.slice A1 f.length d1).ownBlock = some x → Av bA V' c' vs' K kc ks x from fun x hx => hcom.2 x (own_range HO1.out x hx).2 (HAV1.out x hx))
      have HO2 := Lib.hid (own_far HO1.out hfar (fun x hx => notin2 (fun e => (HAV1.out x hx).a e.symm) (HAV1.out x hx).v))
      have HPR := Lib.hid hpr
      have HLV2 := Lib.hid (show LenV (vs'.map prV) by rw [hpr]; exact HLV.out.next HF12.out HFS.out z.base)
      have HB2' := Lib.hid (show Below w.heap.size w u2 from HB1'.out.trans (hfar.below (HB1'.out.size) (fun x hx => by
        rcases List.mem_cons.1 hx with e | e
        · rw [e]; exact HWA.out
        · have h1 := (own_range HG1.out.arc.own x (by simpa using e)).1
          have := HWA.out
          omega)))
      clear hcom hr2 hA' hpr hfar hV' hvs' hA2 HG1 HAV1 z0
      have hk5 : ks.length ≤ 5 := by have := HKL.out; omega
      by_cases hE : comE vs.length z.base f = 0
      · have HN := Lib.hid (show comN vs.length z.base f = (ks.length : Int) + 1 by unfold comN; rw [if_pos hE, HKL.out])
        have HVL := Lib.hid (show ((vs'.length : Nat) : Int) = (ks.length : Int) + 1 by
          have h1 := congrArg List.length HPR.out
          unfold comV at h1
          rw [if_pos hE] at h1
          simp at h1
          have := HKL.out
          omega)
        have HSN := Lib.hid (show vs'.map Vr.l = ks.map Fl.l ++ [comF vs z.base f] by
          have h1 := congrArg (List.map Prod.snd) HPR.out
          unfold comV at h1
          rw [if_pos hE, List.map_append, List.map_map, List.map_map] at h1
          rw [HSM.out]
          exact h1)
        rw [HN.out, hE]
        generalize (comX vs z.base f).length = X
        have hmx : max ((ks.length : Int) + 1 - (ks.length : Int)) 0 = 1 := by omega
        have hw1 : IntKind.i64.wrap ((ks.length : Int) + 1 - (ks.length : Int)) = 1 := by rw [show (ks.length : Int) + 1 - (ks.length : Int) = 1 by omega]; rfl
        clear hE
        go_wp2_with (go_at_call 27; refine (head_p u2 bA V' vs'.length c' HG2.out.arc.blk).mono ?_; rw [HVL.out]; rintro e u3 ⟨rfl, hb3⟩; have HG3 := Lib.hid (HG2.out.to hb3); have HO3 := Lib.hid (own_below HO2.out hb3 (Nat.le_refl _)); have HB3 := Lib.hid (cur_step1 HB2'.out hb3); clear hb3)
        have hfl12 : f.length ≤ 12 := HF12.out
        have HTST := Lib.hid HO3.out
        go_loopw [77] (fun iv wr2 => CuR W6.heap.size 39 f.length (.slice A1 f.length d1) u3 iv wr2) (fun i _ => f.length - (intOf i).toNat)
        case atStart => exact ⟨0, by omega, rfl, Far.refl _ _, _, HO3.out⟩
        case round =>
          clear HTST
          obtain ⟨j, hj, rfl, hfr, xs, hxs⟩ := hrel
          have HFR := Lib.hid hfr
          have HXS := Lib.hid hxs
          clear hfr hxs
          by_cases hjl : j < f.length
          · obtain ⟨g1, hg1⟩ := own_some HXS.out (by omega)
            have HX9 := Lib.hid (show _ from hg1 ▸ HXS.out)
            have HF9 := Lib.hid (show _ from hg1 ▸ HFR.out)
            obtain ⟨y9, hy9⟩ := cu_at (off := 20) hjl HX9.out (by decide)
            have hfz := HX9.out.frozenAt (j * 21 + 20)
            have hbl := (own_range HX9.out g1 rfl).2
            rw [hg1]
            have HG1 := Lib.hid hg1
            clear hg1
            go_wp2_with (fail)
            go_roundw
            case rel => exact cu_next (x := .string _) hjl HF9.out HX9.out
            case measure => simp [intOf]; omega
          · have hjf : j = f.length := by omega
            have HG4 := Lib.hid (HG3.out.faro HAV2.out HFR.out)
            have HB4 := Lib.hid (show Below w.heap.size w wr from HB3.out.trans (HFR.out.below HB3.out.size (fun x hx => HBO1.out x (by simpa using hx))))
            clear hjf
            have hv6 : vs'.length ≤ 6 := by have := HVL.out; omega
            have HLS := Lib.hid (show ∀ v ∈ vs', v.l.length ≤ 10000 from fun v hv => by
              obtain ⟨i, hi, he⟩ := List.getElem_of_mem hv
              have h1 := HLV2.out.len i (prV v) (by rw [List.getElem?_map, List.getElem?_eq_getElem hi, he]; rfl)
              have h2 := Bd_le i (by omega)
              have h3 : (prV v).2 = v.l := rfl
              rw [h3] at h1
              omega)
            have hlast : vs'[ks.length]?.map Vr.l = some (comF vs z.base f) := by
              rw [← List.getElem?_map, HSN.out, List.getElem?_append_right (by simp)]
              simp
            have hhas : hasB vs'.length ((ks.length : Int) + 1) = true := by unfold hasB; have := HVL.out; simp; omega
            have HCH := Lib.hid (show chkV vs'.length ((ks.length : Int) + 1) = 0 by unfold chkV; rw [if_pos hhas])
            obtain ⟨F, hF⟩ : ∃ F, comF vs z.base f = F := ⟨_, rfl⟩
            have HFE := Lib.hid (show fileV vs' ((ks.length : Int) + 1) = F by
              unfold fileV
              rw [if_pos hhas, show ((ks.length : Int) + 1).toNat - 1 = ks.length by omega, hlast, ← hF]
              rfl)
            rw [hF] at HSN
            have hFl : F.length ≤ 10000 := by
              obtain ⟨v, hv, he⟩ := Option.map_eq_some_iff.1 hlast
              rw [← hF, ← he]
              exact HLS.out v (List.mem_of_getElem? hv)
            clear hF hlast hhas
            go_wp2_with (fail)
            refine (get_v bA bA V' c' vs' ((ks.length : Int) + 1) wr (by omega) HLS.out HG4.out.arc).mono ?_
            rw [HCH.out, HFE.out]
            rintro e u4 ⟨⟨v4, rfl, ho4⟩, hb4⟩
            obtain ⟨A4, d4, hv4⟩ := own_form ho4
            subst hv4
            have HO4 := Lib.hid (show OwnL entE 21 39 wr.heap.size u4 (.slice A4 F.length d4) F from ho4)
            obtain ⟨A4', d4', e1, hr4, hx4⟩ := OwnL.rd entE_len ho4
            injection e1 with e1 _ e2
            subst e1 e2
            have HR4 := Lib.hid hr4
            have HG5 := Lib.hid (HG4.out.to hb4)
            have HAV5 := Lib.hid (show ∀ x, (Value.slice A4 F.length d4).ownBlock = some x → Av bA V' c' vs' K kc ks x from fun x hx => HG4.out.fresh (own_range ho4 x hx).1)
            have HBO5 := Lib.hid (show ∀ x, (Value.slice A4 F.length d4).ownBlock = some x → w.heap.size ≤ x from fun x hx => Nat.le_trans HB4.out.size (own_range ho4 x hx).1)
            have HB5 := Lib.hid (cur_step1 HB4.out hb4)
            clear hx4 hr4 ho4 hb4 HG4 HFR HXS
            go_wp2_with (fail)
            refine (clone_p F A4 d4 u4 hFl HR4.out).mono ?_
            rintro e u5 ⟨⟨v5, rfl, ho5⟩, hb5⟩
            obtain ⟨A5, d5, hv5⟩ := own_form ho5
            subst hv5
            have HO5 := Lib.hid (show OwnL entE 21 39 u4.heap.size u5 (.slice A5 F.length d5) F from ho5)
            obtain ⟨A5', d5', e1, hr5, hx5⟩ := OwnL.rd entE_len ho5
            injection e1 with e1 _ e2
            subst e1 e2
            have HR5 := Lib.hid hr5
            have HG6 := Lib.hid (HG5.out.to hb5)
            have HO6 := Lib.hid (own_below HO4.out hb5 (Nat.le_refl _))
            have HB6x := Lib.hid (cur_step1 HB5.out hb5)
            have HS5 := Lib.hid hb5.size
            clear hx5 hr5 ho5 hb5
            obtain ⟨W7, hW7⟩ : ∃ y, u5.alloc (.cells (keE ⟨A5, d5, F⟩).toArray 22) = y := ⟨_, rfl⟩
            have hb7 : Below u5.heap.size u5 W7 := by rw [← hW7]; exact cur_new _ _
            have HB7 := Lib.hid hb7
            have HK7 := Lib.hid (show W7.heap[u5.heap.size]? = some (.cells (keE ⟨A5, d5, F⟩).toArray 22 (0, 0)) by rw [← hW7]; exact heap_alloc_new _ _)
            have S7 := Lib.hid hW7
            have HGE := Lib.hid (show bA ≤ W7.heap.size by have h1 := HG6.out.arc.blk.lt; have h2 := hb7.size; omega)
            clear hW7 hb7
            go_wp2_with (at_builtin; change wpList _ _ _ _ _ (u5.alloc (.cells (keE ⟨A5, d5, F⟩).toArray 22)); rw [S7.out]; refine wpList_app1 Try.keElem W7 rfl (.tmp 95) (.tmp 98) rfl bA K kc ks (by rfl) (own_below HG6.out.kept HB7.out (Nat.le_refl _)) ⟨A5, d5, F⟩ u5.heap.size 1 (by rfl) HK7.out (by unfold maxLen; omega) (by omega) HGE.out ?_; intro g8 cap w8 ha; have HA8 := Lib.hid ha; clear ha)
            have happ := HG6.out.app (z := ⟨A5, d5, F⟩) HB7.out HR5.out (fun b o e => by
              have e : A5 = some ⟨b, o, none⟩ := e
              have h1 := own_range HO5.out b (by rw [e]; rfl)
              have h2 := HG5.out.fresh (x := b) h1.1
              exact ⟨fun e => h2.a e.symm, h2.v, h2.k, h1.2⟩) HA8.out
            have HG8 := Lib.hid happ.1
            have HAV8 := Lib.hid (show ∀ x, (Value.slice A4 F.length d4).ownBlock = some x → Av bA V' c' vs' (some ⟨g8, 0, none⟩) cap (ks ++ [⟨A5, d5, F⟩]) x from fun x hx => happ.2 x (own_range HO6.out x hx).2 (fun b o e => by
              have e : A5 = some ⟨b, o, none⟩ := e
              have h1 := own_range HO5.out b (by rw [e]; rfl)
              have h2 := own_range HO4.out x hx
              omega) (HAV5.out x hx))
            have HO8 := Lib.hid (own_grown (own_below HO6.out HB7.out (Nat.le_refl _)) HA8.out.grown (fun b hb e => (HAV5.out b hb).k e.symm))
            have HB8 := Lib.hid (show Below w.heap.size w w8 from (cur_step1 HB6x.out HB7.out).grown HA8.out.grown (cur_step1 HB6x.out HB7.out).size (fun b hb => Nat.le_trans HWA.out (own_range HG6.out.kept b hb).1))
            have HSM8 := Lib.hid (show (ks ++ [(⟨A5, d5, F⟩ : Fl)]).map Fl.l = vs'.map Vr.l by rw [HSN.out, List.map_append]; rfl)
            have HVK := Lib.hid (show vs'.length ≤ k + 1 by have h1 := HVL.out; have h2 := HKL.out; omega)
            have HKS := Lib.hid (show (ks ++ [(⟨A5, d5, F⟩ : Fl)]).length = ks.length + 1 by simp)
            clear happ HA8 HG6 HO6 HB6x HB5 HG5 HK7 S7
            go_wp2_with (fail)
            have hFl2 : F.length ≤ 10000 := hFl
            go_loopw [102] (fun iv wr2 => CuR wr.heap.size 39 F.length (.slice A4 F.length d4) w8 iv wr2) (fun i _ => F.length - (intOf i).toNat)
            case atStart => exact ⟨0, by omega, rfl, Far.refl _ _, _, HO8.out⟩
            case round =>
              obtain ⟨j, hj, rfl, hfr, xs, hxs⟩ := hrel
              have HFR := Lib.hid hfr
              have HXS := Lib.hid hxs
              clear hfr hxs
              by_cases hjl : j < F.length
              · obtain ⟨g1, hg1⟩ := own_some HXS.out (by omega)
                have HX9 := Lib.hid (show _ from hg1 ▸ HXS.out)
                have HF9 := Lib.hid (show _ from hg1 ▸ HFR.out)
                obtain ⟨y9, hy9⟩ := cu_at (off := 0) hjl HX9.out (by decide)
                have hfz := HX9.out.frozenAt (j * 21 + 0)
                have hbl := (own_range HX9.out g1 rfl).2
                rw [Nat.add_zero] at hy9 hfz
                rw [hg1]
                have HG1 := Lib.hid hg1
                clear hg1
                go_wp2_with (fail)
                go_roundw
                case rel => exact cu_next (x := .int .i64 (-1)) hjl HF9.out HX9.out
                case measure => simp [intOf]; omega
              · have HG9 := Lib.hid (HG8.out.faro HAV8.out HFR.out)
                have HB9 := Lib.hid (show Below w.heap.size w wr from HB8.out.trans (HFR.out.below HB8.out.size (fun x hx => HBO5.out x (by simpa using hx))))
                go_wp2_with (fail)
                refine ⟨⟨k + 1, V', c', vs', some ⟨g8, 0, none⟩, cap, ks ++ [⟨A5, d5, F⟩], by omega, by rw [HKS.out], rfl, HVK.out, HG9.out, HB9.out, HSM8.out, HLV2.out⟩, by show m.length - (k + 1) < m.length - k; omega⟩
      · have HN := Lib.hid (show comN vs.length z.base f = 0 by unfold comN; rw [if_neg hE])
        have HVL := Lib.hid (show ((vs'.length : Nat) : Int) = (ks.length : Int) by
          have h1 := congrArg List.length HPR.out
          unfold comV at h1
          rw [if_neg hE] at h1
          simp at h1
          have := HKL.out
          omega)
        have HSN := Lib.hid (show ks.map Fl.l = vs'.map Vr.l by
          have h1 := congrArg (List.map Prod.snd) HPR.out
          unfold comV at h1
          rw [if_neg hE, List.map_map, List.map_map] at h1
          rw [HSM.out]
          exact h1.symm)
        rw [HN.out]
        generalize (comX vs z.base f).length = X
        have hE2 : (comE vs.length z.base f == 0) = false := by simpa using hE
        generalize comE vs.length z.base f = E at hE2 ⊢
        have hmx : max (-(ks.length : Int)) 0 = 0 := by omega
        have hmx2 : max (0 - (ks.length : Int)) 0 = 0 := by omega
        have hw1 : IntKind.i64.wrap (-(ks.length : Int)) = -(ks.length : Int) := by first | (simp [go_sem]; omega) | (simp [IntKind.wrap, IntKind.bits, IntKind.signed]; omega)
        have hw0 : ((0 : Int) == (ks.length : Int) + 1) = false := by simp; omega
        clear hE
        go_wp2_with (go_at_call 27; refine (head_p u2 bA V' vs'.length c' HG2.out.arc.blk).mono ?_; rw [HVL.out]; rintro e u3 ⟨rfl, hb3⟩; have HG3 := Lib.hid (HG2.out.to hb3); have HO3 := Lib.hid (own_below HO2.out hb3 (Nat.le_refl _)); have HB3 := Lib.hid (cur_step1 HB2'.out hb3); clear hb3)
        have hfl12 : f.length ≤ 12 := HF12.out
        have HTST := Lib.hid HO3.out
        go_loopw [77] (fun iv wr2 => CuR W6.heap.size 39 f.length (.slice A1 f.length d1) u3 iv wr2) (fun i _ => f.length - (intOf i).toNat)
        case atStart => exact ⟨0, by omega, rfl, Far.refl _ _, _, HO3.out⟩
        case round =>
          clear HTST
          obtain ⟨j, hj, rfl, hfr, xs, hxs⟩ := hrel
          have HFR := Lib.hid hfr
          have HXS := Lib.hid hxs
          clear hfr hxs
          by_cases hjl : j < f.length
          · obtain ⟨g1, hg1⟩ := own_some HXS.out (by omega)
            have HX9 := Lib.hid (show _ from hg1 ▸ HXS.out)
            have HF9 := Lib.hid (show _ from hg1 ▸ HFR.out)
            obtain ⟨y9, hy9⟩ := cu_at (off := 20) hjl HX9.out (by decide)
            have hfz := HX9.out.frozenAt (j * 21 + 20)
            have hbl := (own_range HX9.out g1 rfl).2
            rw [hg1]
            have HG1 := Lib.hid hg1
            clear hg1
            go_wp2_with (fail)
            go_roundw
            case rel => exact cu_next (x := .string _) hjl HF9.out HX9.out
            case measure => simp [intOf]; omega
          · have hjf : j = f.length := by omega
            have HG4 := Lib.hid (HG3.out.faro HAV2.out HFR.out)
            have HB4 := Lib.hid (show Below w.heap.size w wr from HB3.out.trans (HFR.out.below HB3.out.size (fun x hx => HBO1.out x (by simpa using hx))))
            clear hjf
            have HVK := Lib.hid (show vs'.length ≤ k + 1 by have h1 := HVL.out; have h2 := HKL.out; omega)
            go_wp2_with (fail)
            refine ⟨⟨k + 1, V', c', vs', K, kc, ks, by omega, rfl, rfl, HVK.out, HG4.out, HB4.out, HSN.out, HLV2.out⟩, by show m.length - (k + 1) < m.length - k; omega⟩
    · have hks6 : ks.length ≤ 6 := by have := HKL.out; omega
      have HLS := Lib.hid (show ∀ v ∈ vs, v.l.length ≤ 10000 from fun v hv => by
        obtain ⟨i, hi, he⟩ := List.getElem_of_mem hv
        have h1 := HLV.out.len i (prV v) (by rw [List.getElem?_map, List.getElem?_eq_getElem hi, he]; rfl)
        have h2 := Bd_le i (by have := HKL.out; omega)
        have h3 : (prV v).2 = v.l := rfl
        rw [h3] at h1
        omega)
      have hvs6 : vs.length ≤ 64 := by have := HKL.out; omega
      have HVS6 := Lib.hid hvs6
      clear hvs6
      go_wp2_with (fail)
      go_loopw [113] (fun iv wr2 => ∃ i : Nat, i ≤ ks.length ∧ iv = .int .i64 i ∧ Below wr.heap.size wr wr2) (fun i _ => ks.length - (intOf i).toNat)
      case atStart => exact ⟨0, by omega, rfl, Below.refl _ _⟩
      case round =>
        obtain ⟨i, hi, rfl, hbi⟩ := hrel
        have HG1 := Lib.hid (HI.out.to hbi)
        have HB1 := Lib.hid (cur_step1 HB.out hbi)
        have HBI := Lib.hid hbi
        clear hbi
        by_cases hil : i < ks.length
        · obtain ⟨z, hz⟩ : ∃ z, ks[i]? = some z := ⟨_, List.getElem?_eq_getElem hil⟩
          obtain ⟨g1, hg1⟩ := own_some HG1.out.kept (by omega)
          have hcl := (show OwnL keE 1 22 bA _ (.slice (some ⟨g1, 0, none⟩) ks.length kc) ks from hg1 ▸ HG1.out.kept).cellAt (i * 1) (by omega)
          have hfl := flat_at keE_len ks i z hz 0 _ rfl
          rw [Nat.add_zero] at hfl
          rw [hfl, Nat.mul_one] at hcl
          have hgl := (own_range HG1.out.kept g1 (by rw [hg1]; rfl)).2
          obtain ⟨F, hF⟩ : ∃ F, z.l = F := ⟨_, rfl⟩
          have hfa := file_at HSM.out hz
          rw [hF] at hfa
          have HFE := Lib.hid hfa.1
          have HCH := Lib.hid hfa.2
          have HRZ := Lib.hid (show Rd entE 21 _ _ z.a F by rw [← hF]; exact HG1.out.rd z (List.mem_of_getElem? hz))
          have HFl := Lib.hid (show F.length ≤ 10000 by
            have h1 := congrArg (·[i]?) HSM.out
            simp only [List.getElem?_map, hz, Option.map_some, hF] at h1
            obtain ⟨v, hv, he⟩ := Option.map_eq_some_iff.1 h1.symm
            rw [← he]
            exact HLS.out v (List.mem_of_getElem? hv))
          rw [hF] at hcl
          clear hF hfa hfl hz
          rw [hg1]
          have HG1e := Lib.hid hg1
          clear hg1
          go_wp2_with (fail)
          refine (get_v bA bA V c vs ((i : Int) + 1) _ HVS6.out HLS.out HG1.out.arc).mono ?_
          rw [HCH.out, HFE.out]
          rintro e u4 ⟨⟨v4, rfl, ho4⟩, hb4⟩
          obtain ⟨A4, d4, rfl, hr4, hx4⟩ := OwnL.rd entE_len ho4
          have HR4 := Lib.hid hr4
          have HRZ4 := Lib.hid (HRZ.out.to hb4)
          have HBI4 := Lib.hid (cur_step1 HBI.out hb4)
          clear hx4 hr4 ho4 hb4
          go_wp2_with (fail)
          refine (eq_ent A4 z.a d4 z.c F F u4 (by have := HFl.out; omega) (by have := HFl.out; omega) HR4.out HRZ4.out).mono ?_
          rintro e u5 ⟨rfl, hb5⟩
          rw [show decide (F = F) = true from decide_eq_true rfl]
          have HBI5 := Lib.hid (cur_step1 HBI4.out hb5)
          clear hb5
          go_wp2_with (fail)
          go_roundw
          case rel => exact ⟨i + 1, by omega, by simp, HBI5.out⟩
          case measure => simp [intOf]; omega
        · go_wp2_with (fail)
          refine (commit_n _ _ _ _ _).mono ?_
          rintro e u4 ⟨rfl, hb4⟩
          have HB4 := Lib.hid (cur_step1 HB1.out hb4)
          clear hb4
          go_wp2_with (fail)
          refine (get_n _ _).mono ?_
          rintro e u5 ⟨rfl, hb5⟩
          have HB5 := Lib.hid (cur_step1 HB4.out hb5)
          clear hb5
          go_wp2_with (fail)
          refine (base_n _ _).mono ?_
          rintro e u6 ⟨rfl, hb6⟩
          have HB6 := Lib.hid (cur_step1 HB5.out hb6)
          clear hb6
          go_wp2_with (fail)
          refine (head_n _).mono ?_
          rintro e u7 ⟨rfl, hb7⟩
          have HB7 := Lib.hid (cur_step1 HB6.out hb7)
          clear hb7
          go_wp2_with (fail)
          go_ret
          exact ⟨rfl, HB7.out⟩
end Go.Proofs.Ytimmlffgokgekaa
