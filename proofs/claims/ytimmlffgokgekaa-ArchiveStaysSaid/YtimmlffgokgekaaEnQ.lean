/-
  Chapter 58: two entries compared.
-/
import Derived.Test.YtimmlffgokgekaaArcF
set_option linter.unusedSimpArgs false
set_option linter.unusedVariables false
namespace Go.Proofs.Ytimmlffgokgekaa
open Go.RowKit
set_option maxRecDepth 100000
set_option maxHeartbeats 4000000
theorem ent_part (d : Ent) (w : World) : (part 37 (entE d).toArray 1).run Try.prog w = .ok (.agg (evE d.ev).toArray) w := by
  simp [part, entE, evE, delE, Try.isAgg37]
theorem ent_eqf (n : Nat) (d d' : Ent) (w : World) : (Op.equalIn (n + 4) 39 (.agg (entE d).toArray) (.agg (entE d').toArray)).run Try.prog w = .ok (decide (d = d')) w := by
  rw [run_equalIn_agg _ _ _ _ _ (by kernel_rfl) (by kernel_rfl)]
  unfold Program.fieldsOf
  simp only [Try.underlying39]
  have h : decide (d = d') = ((d.id == d'.id) && ((decide (d.ev = d'.ev)) && ((d.sc.toList == d'.sc.toList) && true))) := by
    obtain ⟨a1, a2, a3⟩ := d
    obtain ⟨b1, b2, b3⟩ := d'
    rw [Bool.eq_iff_iff]
    rw [← beq_toListBytes]
    have hb : (a3 == b3) = true ↔ a3 = b3 := by
      rw [beq_toListBytes]
      simp only [beq_iff_eq]
      refine ⟨fun h => ?_, fun h => by rw [h]⟩
      rw [ByteArray.toList_eq, ByteArray.toList_eq] at h
      exact ByteArray.ext (Array.toList_inj.1 h)
    simp only [Bool.and_eq_true, hb, Ent.mk.injEq, beq_iff_eq, decide_eq_true_eq, and_true]
  rw [h]
  refine eqf_and (by decide) (by simp [entE, evE, delE, Try.isAgg2]; rfl) (by simp [entE, evE, delE, Try.isAgg2]; rfl) (run_equalIn_int _ _ _ _ _ _ _ Try.underlying2) ?_
  refine eqf_and (by decide) (a := .agg (evE d.ev).toArray) (b := .agg (evE d'.ev).toArray) (ent_part d w) (ent_part d' w) (ev_eqf n d.ev d'.ev w) ?_
  refine eqf_and (by decide) (by simp [entE, evE, delE, Try.isAgg9]; rfl) (by simp [entE, evE, delE, Try.isAgg9]; rfl) (run_equalIn_string _ _ _ _ _ Try.underlying9) ?_
  exact eqf_nil
theorem ent_eql (d d' : Ent) (w : World) : (binOp .eql 39 (.agg (entE d).toArray) (.agg (entE d').toArray)).run Try.prog w = .ok (.bool (decide (d = d'))) w := by
  rw [run_eql_struct, ent_eqf]
  rfl
theorem ent_neq (d d' : Ent) (w : World) : (binOp .neq 39 (.agg (entE d).toArray) (.agg (entE d').toArray)).run Try.prog w = .ok (.bool (!decide (d = d'))) w := by
  rw [run_neq_struct, ent_eqf]
  rfl
end Go.Proofs.Ytimmlffgokgekaa
