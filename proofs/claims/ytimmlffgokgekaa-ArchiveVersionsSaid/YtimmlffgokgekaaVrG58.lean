/-
  Chapter 58: the two archives side by side: what a commit of one leaves of the other.
-/
import Derived.Test.YtimmlffgokgekaaComC58
set_option linter.unusedSimpArgs false
set_option linter.unusedVariables false
namespace Go.Proofs.Ytimmlffgokgekaa
open Go.RowKit
set_option maxRecDepth 100000
set_option maxHeartbeats 4000000
/-- The two archives, side by side: b4 is the law's own box of the reference's. -/
structure VrG (B0 bA b4 : Nat) (V : Option Addr) (c : Nat) (vs : List Vr) (U : Option Addr) (d : Nat) (us : List Vr) (w : World) : Prop where
  arc : ArcS B0 bA V c vs w
  ref : RefS U us w
  cell : Blk w b4 60 [.slice U us.length d]
  b4A : b4 ≠ bA ∧ (Value.slice V vs.length c).ownBlock ≠ some b4
  rowA : ∀ b o, U = some ⟨b, o, none⟩ → b ≠ bA ∧ (Value.slice V vs.length c).ownBlock ≠ some b ∧ b ≠ b4 ∧ b < w.heap.size
  fileA : ∀ v ∈ us, ∀ b o, v.a = some ⟨b, o, none⟩ → b ≠ bA ∧ (Value.slice V vs.length c).ownBlock ≠ some b ∧ b ≠ b4 ∧ b < w.heap.size
  pf : ∀ v ∈ vs, ∀ b o, v.a = some ⟨b, o, none⟩ → b ≠ b4
  ge : B0 ≤ b4
theorem VrG.to {B0 bA b4 : Nat} {V : Option Addr} {c : Nat} {vs : List Vr} {U : Option Addr} {d : Nat} {us : List Vr} {w w' : World} (h : VrG B0 bA b4 V c vs U d us w) (hb : Below w.heap.size w w') : VrG B0 bA b4 V c vs U d us w' :=
  ⟨h.arc.to hb, h.ref.to hb, h.cell.to hb, h.b4A, fun b o e => by obtain ⟨a1, a2, a3, a4⟩ := h.rowA b o e; exact ⟨a1, a2, a3, Nat.lt_of_lt_of_le a4 hb.size⟩, fun v hv b o e => by obtain ⟨a1, a2, a3, a4⟩ := h.fileA v hv b o e; exact ⟨a1, a2, a3, Nat.lt_of_lt_of_le a4 hb.size⟩, h.pf, h.ge⟩
theorem notin {bA : Nat} {V : Option Addr} {n c b : Nat} (h1 : b ≠ bA) (h2 : (Value.slice V n c).ownBlock ≠ some b) : b ∉ (bA :: (Value.slice V n c).ownBlock.toList) := by
  intro hx
  rcases List.mem_cons.1 hx with e | e
  · exact h1 e
  · cases ho : (Value.slice V n c).ownBlock with
    | none => rw [ho] at e; simp at e
    | some y => rw [ho] at e; simp at e; exact h2 (by rw [ho, e])
theorem VrG.com {B0 bA b4 : Nat} {V : Option Addr} {c : Nat} {vs : List Vr} {U : Option Addr} {d : Nat} {us : List Vr} {u1 u2 : World} {V' : Option Addr} {c' : Nat} {vs' : List Vr} (h : VrG B0 bA b4 V c vs U d us u1) (hA' : ArcS B0 bA V' c' vs' u2) (hfar : Far (bA :: (Value.slice V vs.length c).ownBlock.toList) u1 u2)
    (hV : ∀ b, (Value.slice V' vs'.length c').ownBlock = some b → (Value.slice V vs.length c).ownBlock = some b ∨ u1.heap.size ≤ b) (hvs : ∀ v ∈ vs', v ∈ vs ∨ ∀ b o, v.a = some ⟨b, o, none⟩ → u1.heap.size ≤ b) : VrG B0 bA b4 V' c' vs' U d us u2 := by
  have hl4 := h.cell.lt
  have hown : ∀ b, b < u1.heap.size → (Value.slice V vs.length c).ownBlock ≠ some b → (Value.slice V' vs'.length c').ownBlock ≠ some b := fun b hb hn e => by
    rcases hV b e with h1 | h1
    · exact hn h1
    · omega
  refine ⟨hA', ⟨rd_far h.ref.row hfar (fun b o e => notin (h.rowA b o e).1 (h.rowA b o e).2.1), fun v hv => rd_far (h.ref.rd v hv) hfar (fun b o e => notin (h.fileA v hv b o e).1 (h.fileA v hv b o e).2.1)⟩, h.cell.far hfar (notin h.b4A.1 h.b4A.2), ⟨h.b4A.1, hown b4 hl4 h.b4A.2⟩, fun b o e => ?_, fun v hv b o e => ?_, fun v hv b o e => ?_, h.ge⟩
  · obtain ⟨a1, a2, a3, a4⟩ := h.rowA b o e
    exact ⟨a1, hown b a4 a2, a3, Nat.lt_of_lt_of_le a4 hfar.size⟩
  · obtain ⟨a1, a2, a3, a4⟩ := h.fileA v hv b o e
    exact ⟨a1, hown b a4 a2, a3, Nat.lt_of_lt_of_le a4 hfar.size⟩
  · rcases hvs v hv with h1 | h1
    · exact h.pf v h1 b o e
    · have := h1 b o e; omega
/-- Behind the reference's commit (from u2 on) and the store into its box. -/
theorem VrG.put {B0 bA b4 : Nat} {V : Option Addr} {c : Nat} {vs : List Vr} {U : Option Addr} {d : Nat} {us : List Vr} {s : Nat} {u3 : World} {U' : Option Addr} {d' : Nat} {us' : List Vr} (h : VrG B0 bA b4 V c vs U d us u3) (hs1 : bA < s) (hs2 : ∀ b, (Value.slice V vs.length c).ownBlock = some b → b < s) (hs3 : b4 < s) (hR : RefS U' us' u3)
    (hU : U' = U ∨ ∀ b o, U' = some ⟨b, o, none⟩ → s ≤ b ∧ b < u3.heap.size) (hus : ∀ v ∈ us', v ∈ us ∨ ∀ b o, v.a = some ⟨b, o, none⟩ → s ≤ b ∧ b < u3.heap.size) :
    VrG B0 bA b4 V c vs U' d' us' (u3.setRow b4 #[.slice U' us'.length d']) := by
  have hF := Far.row (w := u3) b4 #[.slice U' us'.length d']
  have hsz := hF.size
  have hcell : Blk (u3.setRow b4 #[.slice U' us'.length d']) b4 60 [.slice U' us'.length d'] := blk_row h.cell _
  have hrow : ∀ b o, U' = some ⟨b, o, none⟩ → b ≠ bA ∧ (Value.slice V vs.length c).ownBlock ≠ some b ∧ b ≠ b4 ∧ b < u3.heap.size := by
    intro b o e
    rcases hU with h1 | h1
    · exact h.rowA b o (h1 ▸ e)
    · obtain ⟨a1, a2⟩ := h1 b o e
      exact ⟨by omega, fun hx => by have := hs2 b hx; omega, by omega, a2⟩
  have hfile : ∀ v ∈ us', ∀ b o, v.a = some ⟨b, o, none⟩ → b ≠ bA ∧ (Value.slice V vs.length c).ownBlock ≠ some b ∧ b ≠ b4 ∧ b < u3.heap.size := by
    intro v hv b o e
    rcases hus v hv with h1 | h1
    · exact h.fileA v h1 b o e
    · obtain ⟨a1, a2⟩ := h1 b o e
      exact ⟨by omega, fun hx => by have := hs2 b hx; omega, by omega, a2⟩
  refine ⟨h.arc.far hF (by simp; exact fun e => h.b4A.1 e.symm) (fun b hb => by simp; exact fun e => h.b4A.2 (by rw [hb, e])) (fun v hv b o e => by simp; exact h.pf v hv b o e), ⟨rd_far hR.row hF (fun b o e => by simp; exact (hrow b o e).2.2.1), fun v hv => rd_far (hR.rd v hv) hF (fun b o e => by simp; exact (hfile v hv b o e).2.2.1)⟩, hcell, h.b4A, fun b o e => ?_, fun v hv b o e => ?_, h.pf, h.ge⟩
  · obtain ⟨a1, a2, a3, a4⟩ := hrow b o e
    exact ⟨a1, a2, a3, Nat.lt_of_lt_of_le a4 hsz⟩
  · obtain ⟨a1, a2, a3, a4⟩ := hfile v hv b o e
    exact ⟨a1, a2, a3, Nat.lt_of_lt_of_le a4 hsz⟩
theorem comX_len {vs : List Vr} (h : LenV (vs.map prV)) (h5 : vs.length ≤ 5) {f : List Ent} (hf : f.length ≤ 12) (base : Int) : (comX vs base f).length ≤ 400 := by
  unfold comX
  split
  · rename_i h0
    unfold comC
    split
    · simp
    · rename_i hb
      have hk : hasB vs.length base = true := by
        cases hh : hasB vs.length base with
        | true => rfl
        | false =>
          exfalso
          unfold comE at h0
          split at h0
          · rename_i h1; exact h1 h0
          · rw [if_pos ⟨hh, fun hx => hb (by omega)⟩] at h0
            cases h0
      have h1 := h.sum h5 hf base hk
      have h2 := mCl_len (fileV vs base) (fileV vs vs.length) f (idsU (fileV vs base) (fileV vs vs.length) f)
      have h3 := idsU_len (fileV vs base) (fileV vs vs.length) f
      omega
  · simp
/-- Behind both commits, ahead of the store into the law's own box. -/
structure R10 where
  U : Option Addr
  d : Nat
  us : List Vr
  A1 : Option Addr
  d1 : Nat
  A3 : Option Addr
  c3 : Nat
  b10 : Nat
structure R10C (bA b4 : Nat) (V : Option Addr) (c : Nat) (vs : List Vr) (U : Option Addr) (d : Nat) (us : List Vr) (base : Int) (f : List Ent) (A2 : Option Addr) (X : List Int) (u2 : World) (x : R10) (w' : World) : Prop where
  below : Below u2.heap.size u2 w'
  r : RefS x.U x.us w'
  row : x.U = U ∨ ∀ b o, x.U = some ⟨b, o, none⟩ → u2.heap.size ≤ b ∧ b < w'.heap.size
  files : ∀ v ∈ x.us, v ∈ us ∨ ∀ b o, v.a = some ⟨b, o, none⟩ → u2.heap.size ≤ b ∧ b < w'.heap.size
  box : Blk w' x.b10 60 [.slice x.U x.us.length x.d]
  pr : x.us.map prV = comV us base f
  cl : Rd inE 1 w' w'.heap.size x.A3 (comX us base f)
  a3 : ∀ b o, x.A3 = some ⟨b, o, none⟩ → u2.heap.size ≤ b
theorem r10_fin {bA b4 : Nat} {V : Option Addr} {c : Nat} {vs : List Vr} {U : Option Addr} {d : Nat} {us : List Vr} {base : Int} {f : List Ent} {A2 : Option Addr} {X : List Int} {u2 wf wc : World} {x : R10} {y : Value}
    (hG : VrG bA bA b4 V c vs U d us u2) (hb : Below u2.heap.size u2 wf) (hc : u2.heap.size ≤ wc.heap.size) (hbox : Blk wf x.b10 60 [y]) (h10 : u2.heap.size ≤ x.b10) (hr : RefS x.U x.us wf) (hcl : Rd inE 1 wf wf.heap.size x.A3 (comX us base f)) (hpr : x.us.map prV = comV us base f)
    (hrow : x.U = U ∨ ∀ b o, x.U = some ⟨b, o, none⟩ → wc.heap.size ≤ b ∧ b < wf.heap.size ∧ b ≠ x.b10) (hfiles : ∀ v ∈ x.us, v ∈ us ∨ ∀ b o, v.a = some ⟨b, o, none⟩ → wc.heap.size ≤ b ∧ b < wf.heap.size ∧ b ≠ x.b10) (h3 : ∀ b o, x.A3 = some ⟨b, o, none⟩ → b ≠ x.b10 ∧ u2.heap.size ≤ b) :
    R10C bA b4 V c vs U d us base f A2 X u2 x (wf.setRow x.b10 #[.slice x.U x.us.length x.d]) := by
  have hF := Far.row (w := wf) x.b10 #[.slice x.U x.us.length x.d]
  have hsz := hF.size
  refine ⟨row_below hb h10 _, ⟨rd_far hr.row hF (fun b o e => ?_), fun v hv => rd_far (hr.rd v hv) hF (fun b o e => ?_)⟩, ?_, fun v hv => ?_, blk_row hbox _, hpr, rd_far hcl hF (fun b o e => by simp; exact (h3 b o e).1), fun b o e => (h3 b o e).2⟩
  · simp
    rcases hrow with h1 | h1
    · have := (hG.rowA b o (h1 ▸ e)).2.2.2; omega
    · exact (h1 b o e).2.2
  · simp
    rcases hfiles v hv with h1 | h1
    · have := (hG.fileA v h1 b o e).2.2.2; omega
    · exact (h1 b o e).2.2
  · rcases hrow with h1 | h1
    · exact Or.inl h1
    · exact Or.inr fun b o e => ⟨by have := (h1 b o e).1; omega, by have := (h1 b o e).2.1; omega⟩
  · rcases hfiles v hv with h1 | h1
    · exact Or.inl h1
    · exact Or.inr fun b o e => ⟨by have := (h1 b o e).1; omega, by have := (h1 b o e).2.1; omega⟩
theorem wp_absA {α : Type} {P : Program} {code : Code} {Q : Exit → Act → World → Prop} {a : Act} {w : World} (F : Act → α → Act) (C : α → World → Prop)
    (h : code.wp P (fun e a' w' => e = .normal ∧ ∃ x, a' = F a x ∧ C x w') a w) (h2 : ∀ x w', C x w' → Q .normal (F a x) w') : code.wp P Q a w := by
  refine Code.wp_mono ?_ h
  rintro e a' w' ⟨rfl, x, rfl, hc⟩
  exact h2 x w' hc
end Go.Proofs.Ytimmlffgokgekaa
