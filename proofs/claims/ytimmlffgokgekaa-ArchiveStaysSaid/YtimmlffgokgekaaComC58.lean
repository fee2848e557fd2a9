/-
  Chapter 58: Commit of both, accepted or not, in one form.
-/
import Derived.Test.YtimmlffgokgekaaCoR58
set_option linter.unusedSimpArgs false
set_option linter.unusedVariables false
namespace Go.Proofs.Ytimmlffgokgekaa
open Go.RowKit
set_option maxRecDepth 100000
set_option maxHeartbeats 4000000
def prV (v : Vr) : Int × List Ent := (v.base, v.l)
def comV (vs : List Vr) (base : Int) (f : List Ent) : List (Int × List Ent) := if comE vs.length base f = 0 then vs.map prV ++ [(base, comF vs base f)] else vs.map prV
def comN (n : Nat) (base : Int) (f : List Ent) : Int := if comE n base f = 0 then (n : Int) + 1 else 0
def comX (vs : List Vr) (base : Int) (f : List Ent) : List Int := if comE vs.length base f = 0 then comC vs base f else []
theorem fileV_pr {vs us : List Vr} (h : vs.map prV = us.map prV) (k : Int) : fileV vs k = fileV us k ∧ baseV vs k = baseV us k ∧ vs.length = us.length := by
  have hl : vs.length = us.length := by have := congrArg List.length h; simpa using this
  have hk : ∀ i : Nat, vs[i]?.map Vr.l = us[i]?.map Vr.l ∧ vs[i]?.map Vr.base = us[i]?.map Vr.base := by
    intro i
    have h1 := congrArg (·[i]?) h
    simp only [List.getElem?_map] at h1
    cases hv : vs[i]? with
    | none => rw [hv] at h1; cases hu : us[i]? with
      | none => simp
      | some u => rw [hu] at h1; simp at h1
    | some v => rw [hv] at h1; cases hu : us[i]? with
      | none => rw [hu] at h1; simp at h1
      | some u =>
        rw [hu] at h1
        simp only [Option.map_some, Option.some.injEq, prV, Prod.mk.injEq] at h1
        simp [h1.1, h1.2]
  refine ⟨?_, ?_, hl⟩
  · unfold fileV; rw [hl, (hk _).1]
  · unfold baseV; rw [hl, (hk _).2]
theorem comF_pr {vs us : List Vr} (h : vs.map prV = us.map prV) (base : Int) (f : List Ent) : comV vs base f = comV us base f ∧ comX vs base f = comX us base f ∧ comF vs base f = comF us base f := by
  have hl := (fileV_pr h 0).2.2
  have h1 := (fileV_pr h base).1
  have h2 := (fileV_pr h (us.length : Int)).1
  have hF : comF vs base f = comF us base f := by unfold comF; rw [hl, h1, h2]
  have hC : comC vs base f = comC us base f := by unfold comC; rw [hl, h1, h2]
  refine ⟨?_, ?_, hF⟩
  · unfold comV; rw [hl, hF, h]
  · unfold comX; rw [hl, hC]
theorem commit_c (B0 bA : Nat) (V : Option Addr) (c : Nat) (vs : List Vr) (base : Int) (A : Option Addr) (cf : Nat) (f : List Ent) (w : World) (hB0 : B0 ≤ w.heap.size) (hn : vs.length ≤ 64) (hf12 : f.length ≤ 12) (hsc : ∀ x ∈ f, x.sc.size ≤ 20) (hrd : Rd entE 21 w w.heap.size A f) (hA : ArcS B0 bA V c vs w)
    (hls : ∀ v ∈ vs, GoodA v.l ∧ (∀ x ∈ v.l, x.sc.size ≤ 20)) (hlen : ∀ k, hasB vs.length k = true → (fileV vs k).length + (fileV vs vs.length).length + f.length ≤ 400) :
    Calls Try.prog 25 #[.pointer (some ⟨bA, 0, none⟩), .int .i64 base, .slice A f.length cf] w fun e' w' => ∃ V' c' vs' A2 c2, e' = .returned (.tuple #[.int .i64 (comN vs.length base f), .slice A2 (comX vs base f).length c2, .int .i64 (comE vs.length base f)]) ∧ Rd inE 1 w' w'.heap.size A2 (comX vs base f) ∧ ArcS B0 bA V' c' vs' w' ∧ vs'.map prV = comV vs base f ∧
      Far (bA :: (Value.slice V vs.length c).ownBlock.toList) w w' ∧ (∀ b, (Value.slice V' vs'.length c').ownBlock = some b → (Value.slice V vs.length c).ownBlock = some b ∨ w.heap.size ≤ b) ∧ (∀ v ∈ vs', v ∈ vs ∨ ∀ b o, v.a = some ⟨b, o, none⟩ → w.heap.size ≤ b) ∧ (∀ b o, A2 = some ⟨b, o, none⟩ → w.heap.size ≤ b) := by
  refine commit_e B0 bA V c vs base A cf f w hB0 hn hf12 hsc hrd hA hls hlen _ (fun hne w' hb => ?_) (fun h0 w' V' c' v2 a' c2 hA' ho hfar hV ha => ?_)
  · have h1 : comX vs base f = [] := by unfold comX; rw [if_neg hne]
    have h2 : comN vs.length base f = 0 := by unfold comN; rw [if_neg hne]
    rw [h1, h2]
    exact ⟨V, c, vs, none, 0, rfl, Rd.nil_, hA.to hb, by unfold comV; rw [if_neg hne], Far.of hb, fun b h => Or.inl h, fun v hv => Or.inl hv, fun b o e => by cases e⟩
  · have h1 : comX vs base f = comC vs base f := by unfold comX; rw [if_pos h0]
    have h2 : comN vs.length base f = (vs.length : Int) + 1 := by unfold comN; rw [if_pos h0]
    obtain ⟨A2, c3, rfl, hr, hz⟩ := OwnL.rd inE_len ho
    rw [h1, h2, h0]
    refine ⟨V', c', vs ++ [⟨base, a', c2, comF vs base f⟩], A2, c3, rfl, hr, hA', by unfold comV; rw [if_pos h0, List.map_append]; rfl, hfar, ?_, ?_, fun b o e => (hz b o e).1⟩
    · intro b hb
      exact hV b (by rw [List.length_append] at hb; exact hb)
    · intro v hv
      rcases List.mem_append.1 hv with h | h
      · exact Or.inl h
      · simp at h; subst h; exact Or.inr ha
theorem commit_q (V : Option Addr) (c : Nat) (vs : List Vr) (base : Int) (A : Option Addr) (cf : Nat) (f : List Ent) (w : World) (hn : vs.length ≤ 64) (hf12 : f.length ≤ 12) (hsc : ∀ x ∈ f, x.sc.size ≤ 20) (hrd : Rd entE 21 w w.heap.size A f) (hA : RefS V vs w)
    (hls : ∀ v ∈ vs, GoodA v.l ∧ (∀ x ∈ v.l, x.sc.size ≤ 20)) (hlen : ∀ k, hasB vs.length k = true → (fileV vs k).length + (fileV vs vs.length).length + f.length ≤ 400) :
    Calls Try.prog 26 #[.agg #[.slice V vs.length c], .int .i64 base, .slice A f.length cf] w fun e' w' => ∃ V' c' vs' A2 c2, e' = .returned (.tuple #[.agg #[.slice V' vs'.length c'], .int .i64 (comN vs.length base f), .slice A2 (comX vs base f).length c2, .int .i64 (comE vs.length base f)]) ∧ Rd inE 1 w' w'.heap.size A2 (comX vs base f) ∧ RefS V' vs' w' ∧ vs'.map prV = comV vs base f ∧
      Below w.heap.size w w' ∧ (V' = V ∨ ∀ b o, V' = some ⟨b, o, none⟩ → w.heap.size ≤ b ∧ b < w'.heap.size) ∧ (∀ v ∈ vs', v ∈ vs ∨ ∀ b o, v.a = some ⟨b, o, none⟩ → w.heap.size ≤ b ∧ b < w'.heap.size) ∧ (∀ b o, A2 = some ⟨b, o, none⟩ → w.heap.size ≤ b ∧ b < w'.heap.size) := by
  refine commit_r V c vs base A cf f w hn hf12 hsc hrd hA hls hlen _ (fun hne w' hb => ?_) (fun h0 w' V' c' v2 a' c2 hA' ho hb hV ha => ?_)
  · have h1 : comX vs base f = [] := by unfold comX; rw [if_neg hne]
    have h2 : comN vs.length base f = 0 := by unfold comN; rw [if_neg hne]
    rw [h1, h2]
    exact ⟨V, c, vs, none, 0, rfl, Rd.nil_, hA.to hb, by unfold comV; rw [if_neg hne], hb, Or.inl rfl, fun v hv => Or.inl hv, fun b o e => by cases e⟩
  · have h1 : comX vs base f = comC vs base f := by unfold comX; rw [if_pos h0]
    have h2 : comN vs.length base f = (vs.length : Int) + 1 := by unfold comN; rw [if_pos h0]
    obtain ⟨A2, c3, rfl, hr, hz⟩ := OwnL.rd inE_len ho
    rw [h1, h2, h0]
    refine ⟨V', c', vs ++ [⟨base, a', c2, comF vs base f⟩], A2, c3, by rw [List.length_append]; rfl, hr, hA', by unfold comV; rw [if_pos h0, List.map_append]; rfl, hb, Or.inr hV, ?_, fun b o e => own_range ho b (by rw [e]; rfl)⟩
    intro v hv
    rcases List.mem_append.1 hv with h | h
    · exact Or.inl h
    · simp at h; subst h; exact Or.inr ha
/-- How long a version can be, by its place. -/
def Bd : Nat → Nat
  | 0 => 12
  | 1 => 12
  | n + 2 => Bd (n + 1) + Bd n + 12
theorem Bd_le : ∀ n, n ≤ 6 → Bd n ≤ 300 := by decide
theorem Bd_mono {a b : Nat} (h : a ≤ b) : Bd a ≤ Bd b := by
  induction b with
  | zero => have : a = 0 := by omega
            subst this; exact Nat.le_refl _
  | succ b ih =>
    by_cases e : a = b + 1
    · subst e; exact Nat.le_refl _
    · have h1 := ih (by omega)
      have h2 : Bd b ≤ Bd (b + 1) := by
        cases b with
        | zero => decide
        | succ n => show Bd (n + 1) ≤ Bd (n + 1) + Bd n + 12; omega
      omega
structure LenV (ps : List (Int × List Ent)) : Prop where
  len : ∀ i p, ps[i]? = some p → p.2.length ≤ Bd i
  good : ∀ p ∈ ps, GoodA p.2 ∧ ∀ x ∈ p.2, x.sc.size ≤ 20
theorem LenV.file {vs : List Vr} (h : LenV (vs.map prV)) {k : Int} (hk : hasB vs.length k = true) : (fileV vs k).length ≤ Bd (k.toNat - 1) ∧ GoodA (fileV vs k) ∧ ∀ x ∈ fileV vs k, x.sc.size ≤ 20 := by
  obtain ⟨v, j, hv, hj, hf⟩ := fileV_at hk
  rw [hf, show k.toNat - 1 = j by omega]
  have h1 : (vs.map prV)[j]? = some (prV v) := by rw [List.getElem?_map, hv]; rfl
  exact ⟨h.len j _ h1, h.good _ (List.mem_of_getElem? h1)⟩
theorem LenV.all {vs : List Vr} (h : LenV (vs.map prV)) : ∀ v ∈ vs, GoodA v.l ∧ ∀ x ∈ v.l, x.sc.size ≤ 20 := fun v hv => h.good (prV v) (List.mem_map_of_mem hv)
theorem LenV.sum {vs : List Vr} (h : LenV (vs.map prV)) (h5 : vs.length ≤ 5) {f : List Ent} (hf : f.length ≤ 12) : ∀ k, hasB vs.length k = true → (fileV vs k).length + (fileV vs vs.length).length + f.length ≤ 400 := by
  intro k hk
  have hk2 : 1 ≤ k ∧ k ≤ (vs.length : Int) := by unfold hasB at hk; simpa using hk
  have hn : hasB vs.length (vs.length : Int) = true := by unfold hasB; simp; omega
  have h1 := (h.file hk).1
  have h2 := (h.file hn).1
  have h3 : Bd (k.toNat - 1) ≤ Bd 4 := Bd_mono (by omega)
  have h4 : Bd ((vs.length : Int).toNat - 1) ≤ Bd 4 := Bd_mono (by omega)
  have h5 : Bd 4 = 108 := by decide
  omega
theorem LenV.next {vs : List Vr} (h : LenV (vs.map prV)) {f : List Ent} (hf : f.length ≤ 12) (hs : ∀ x ∈ f, x.sc.size ≤ 20) (base : Int) : LenV (comV vs base f) := by
  unfold comV
  by_cases h0 : comE vs.length base f = 0
  · rw [if_pos h0]
    have hcf : chkA f = 0 := by
      unfold comE at h0
      by_cases e : chkA f = 0
      · exact e
      · rw [if_pos e] at h0; exact h0
    have hno : ¬ (hasB vs.length base = false ∧ ¬ (base = 0 ∧ vs.length = 0)) := by
      intro hx
      unfold comE at h0
      rw [if_neg (by rw [hcf]; simp), if_pos hx] at h0
      cases h0
    have hF : (comF vs base f).length ≤ Bd vs.length ∧ GoodA (comF vs base f) ∧ ∀ x ∈ comF vs base f, x.sc.size ≤ 20 := by
      unfold comF
      by_cases hb : base = (vs.length : Int)
      · rw [if_pos hb]
        exact ⟨Nat.le_trans hf (Bd_mono (Nat.zero_le _)), goodA_of hcf, hs⟩
      · rw [if_neg hb]
        have hk : hasB vs.length base = true := by
          cases hh : hasB vs.length base with
          | true => rfl
          | false => exact (hno ⟨hh, fun hx => hb (by omega)⟩).elim
        have hk2 : 1 ≤ base ∧ base ≤ (vs.length : Int) := by unfold hasB at hk; simpa using hk
        have hn : hasB vs.length (vs.length : Int) = true := by unfold hasB; simp; omega
        obtain ⟨a1, a2, a3⟩ := h.file hk
        obtain ⟨b1, b2, b3⟩ := h.file hn
        refine ⟨?_, good_merge a2 b2 (goodA_of hcf), fun x hx => ?_⟩
        · have l1 := mOut_len (fileV vs base) (fileV vs vs.length) f (idsU (fileV vs base) (fileV vs vs.length) f)
          have l2 := idsU_len (fileV vs base) (fileV vs vs.length) f
          obtain ⟨n, hn2⟩ : ∃ n, vs.length = n + 2 := ⟨vs.length - 2, by omega⟩
          have l3 : Bd (base.toNat - 1) ≤ Bd n := Bd_mono (by omega)
          have l4 : Bd ((vs.length : Int).toNat - 1) = Bd (n + 1) := by congr 1; omega
          have l5 : Bd vs.length = Bd (n + 1) + Bd n + 12 := by rw [hn2]; rfl
          omega
        · rcases mOut_mem hx with h1 | h1 | h1
          · exact a3 x h1
          · exact b3 x h1
          · exact hs x h1
    refine ⟨fun i p hp => ?_, fun p hp => ?_⟩
    · by_cases hi : i < (vs.map prV).length
      · rw [List.getElem?_append_left hi] at hp
        exact h.len i p hp
      · rw [List.getElem?_append_right (by omega)] at hp
        have hi2 : i = vs.length := by
          have := (List.getElem?_eq_some_iff.1 hp).1
          simp at this hi
          omega
        subst hi2
        simp at hp
        subst hp
        exact hF.1
    · rcases List.mem_append.1 hp with hp | hp
      · exact h.good p hp
      · simp at hp; subst hp; exact hF.2
  · rw [if_neg h0]; exact h
end Go.Proofs.Ytimmlffgokgekaa
