/-
  ArchiveVersions: the versions after any commits are those of the reference. No condition.
-/
import Derived.Test.YtimmlffgokgekaaRows
import Derived.WalkKit
import Derived.ProofKit
import Derived.OpenShut
import Derived.ShutString
import Derived.ChangeOld
import Derived.Below
import Derived.Test.YtimmlffgokgekaaLawVr58
import Derived.Test.YtimmlffgokgekaaOpA
import Derived.Test.YtimmlffgokgekaaVrs58
namespace Go.Proofs.Ytimmlffgokgekaa
open Go.RowKit Go.ChangeShapes Go.WideShapes Go.ChangeAt Go.Deep
set_option maxRecDepth 100000
set_option maxHeartbeats 1000000
section
variable {H : Type} {tok : TypeId × Value → H} {w : World} {base : Nat} {spare : Nat → Bool} {held : Bool}
instance : Inhabited Vr := ⟨⟨0, none, 0, []⟩⟩
def CmQ (w : World) (z : Vr) : Prop := z.l.length ≤ z.c ∧ z.c ≤ maxLen ∧ Rd entE 21 w w.heap.size z.a z.l ∧ ∀ x ∈ z.l, x.sc.size ≤ 9223372036854775807
theorem cm_el (n : Nat) (cs : List Value) (y : DataW H × List MemPlace) (h : DataW.trod tok Try.prog w base spare held n 62 cs = some y) : ∃ z : Vr, cs = verE z ∧ CmQ w z := by
  obtain ⟨xs, m, rfl, _, hlen, hxl, hf⟩ := DataW.trod_struct Try.underlying62 h
  have hC : Try.prog.cellsOf 62 = 2 := by kernel_rfl
  rw [hC] at hlen
  match cs, hlen with
  | [a, b], _ =>
    match xs, hxl with
    | [p, q], _ =>
      have f0 := hf 0 _ rfl
      have f1 := hf 1 _ rfl
      simp only [List.getElem?_cons_zero, List.getElem?_cons_succ] at f0 f1
      obtain ⟨x0, e0, _, _⟩ := DataW.trod_int Try.underlying3 f0
      injection e0 with e0
      subst e0
      obtain ⟨A, c, l, rfl, h1, h2, h3, h4⟩ := open_listQ (enc := entE) (Q := szA) (show szA ⟨0, zeroE, ByteArray.empty⟩ by unfold szA; decide) Try.underlying22 (by kernel_rfl) (by decide) entE_len ent_el (show DataW.trod tok Try.prog w base spare held _ 22 [b] = some _ from f1)
      exact ⟨⟨x0, A, c, l⟩, rfl, h1, h2, h3, h4⟩
theorem open_commits {v : Value} {d : DataW H} {p : List MemPlace} {r : Reach} {b0 : Nat} (hv : Value.okWide Try.prog w r b0 55 v) (h : DataW.Trod tok Try.prog w base spare held 55 v d p) :
    ∃ A c l, v = .slice A l.length c ∧ l.length ≤ c ∧ c ≤ maxLen ∧ Rd verE 2 w w.heap.size A l ∧ ∀ z ∈ l, CmQ w z := by
  obtain ⟨a0, len, cap, rfl⟩ := okWide_slice Try.underlying55 hv
  obtain ⟨fuel, hf⟩ := h
  exact open_listQ (enc := verE) (Q := CmQ w) (show CmQ w ⟨0, none, 0, []⟩ from ⟨Nat.le_refl _, by decide, Rd.nil_, fun x hx => by cases hx⟩) Try.underlying55 (by kernel_rfl) (by decide) verE_len cm_el hf
end
end Go.Proofs.Ytimmlffgokgekaa
namespace Go.Proofs.Ytimmlffgokgekaa.archiveVersions
open Go.ChangeShapes Go.WideShapes Go.ChangeAt Go.RowKit
set_option linter.unusedVariables false

theorem own : ownKnob Try.prog.godebug = none := by kernel_rfl
theorem laidOut : laidOutB Try.prog = true := by kernel_rfl

set_option maxRecDepth 100000 in
theorem lifted (os : Os) (started : os.Started) (H : Type) (enc : TypeId × Value → H) :
    ReturnsInHanded {} Try.checked os 6 .any (Rows.archiveVersionsSpec.pre6 enc Try.prog Try.f6 Rows.archiveVersionsRow.domain false) (Rows.archiveVersionsSpec.post enc Try.prog Try.f6 false true false false) := by
  refine returnsInHanded_of_change (C := Try.checked) own started (by kernel_rfl) Try.func6
    (ChangeSpec.witness6 (enc := enc) (C := Try.checked) false ⟨#[], #[.slice none 0 0], []⟩ 8 (by kernel_rfl) (by kernel_rfl) (by kernel_rfl) (by kernel_rfl)) ?_
  intro W base args ds gs before hval0 hW hcnd _
  have hval : ∀ (j : Nat) t v, Try.f6.params[j]? = some t → args[j]? = some v → Value.okWide Try.prog W .any base t v := hval0
  have hW' := hW
  obtain ⟨p, q, hA0, hV, rfl, hfz, hnd⟩ := hW
  have hA : DataW.TrodAll enc Try.prog W 0 (fun _ => true) true Try.f6.params.toList args.toList ds p := hA0
  rw [Try.params6] at hA hval
  obtain ⟨v0, vs0, d0, ds0, p0, q0, hargs, rfl, rfl, h0, r0⟩ := trodAll_cons hA
  obtain ⟨rfl, rfl, rfl⟩ := trodAll_nil r0
  obtain rfl : args = #[v0] := by cases args; simp_all
  obtain ⟨rfl, rfl⟩ := trodVars_none hV
  have k0 := h0
  have lt0 : ∀ x ∈ p0, x.block < W.heap.size := by obtain ⟨m, hm⟩ := k0; exact DataW.trod_lt m _ _ _ hm
  obtain ⟨A0, c0, l, rfl, hl, hc, hr, hq⟩ := open_commits (hval 0 55 v0 rfl rfl) h0
  clear hA0 hval0
  refine (law_versions A0 c0 l W hl (by unfold maxLen at hc; omega) (fun z hz => ⟨(hq z hz).1, (by have := (hq z hz).2.1; unfold maxLen at this; omega), (hq z hz).2.2.1, (hq z hz).2.2.2⟩) hr).mono fun e W' ⟨he, bel⟩ => ?_
  subst he
  exact ⟨_, rfl, _, _, _, [], _, [], hW', trodAll_mk1 (shut_bool Try.underlying4 _), (trodAll_cons_mk (Below.trod laidOut (by kernel_rfl) (of_decide_eq_true (by kernel_rfl)) k0 bel lt0) trodAll_mk0), rfl, bel.frame _, fun h => by cases h⟩

theorem over : Rows.archiveVersionsRow.holds Try.pinned (OpenSpec.ofChange Rows.archiveVersionsSpec) :=
  OpenClaim.holds_of_wide 6 Try.f6 rfl rfl rfl rfl rfl rfl rfl ⟨rfl, rfl, rfl, rfl, rfl⟩ rfl rfl rfl rfl rfl (by kernel_rfl) Try.func6 (by kernel_rfl)
    (of_decide_eq_true (by kernel_rfl)) (by unfold Func.isWrapper; first | (rw [if_pos (by decide +kernel)]; kernel_rfl) | (rw [if_neg (by decide +kernel)]; exact ⟨rfl, rfl⟩))
    (fun os started H enc _ => lifted os started H enc)

end Go.Proofs.Ytimmlffgokgekaa.archiveVersions
namespace Go.Proofs.Ytimmlffgokgekaa
theorem archiveVersions_holds : Rows.ArchiveVersionsSaid := archiveVersions.over
#print axioms archiveVersions_holds
end Go.Proofs.Ytimmlffgokgekaa
