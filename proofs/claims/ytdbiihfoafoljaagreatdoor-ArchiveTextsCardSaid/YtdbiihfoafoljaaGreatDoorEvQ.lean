/-
  Chapter 8: two events compared.
-/
import Derived.Test.YtdbiihfoafoljaaGreatDoorDelQ
import Derived.Test.YtdbiihfoafoljaaGreatDoorEvK
set_option linter.unusedSimpArgs false
set_option linter.unusedVariables false
namespace Go.Proofs.YtdbiihfoafoljaaGreatDoor
open Go.RowKit
set_option maxRecDepth 100000
set_option maxHeartbeats 4000000
theorem ev_part (d : Ev) (w : World) : (part 36 (evE d).toArray 7).run Tryz.prog w = .ok (.agg (delA d.ball)) w := by
  simp [part, evE, delE, Tryz.isAgg36, delA]
theorem ev_eqf (n : Nat) (d d' : Ev) (w : World) : (Op.equalIn (n + 3) 38 (.agg (evE d).toArray) (.agg (evE d').toArray)).run Tryz.prog w = .ok (decide (d = d')) w := by
  rw [run_equalIn_agg _ _ _ _ _ (by kernel_rfl) (by kernel_rfl)]
  unfold Program.fieldsOf
  simp only [Tryz.underlying38]
  have h : decide (d = d') = ((d.kind == d'.kind) && ((d.side == d'.side) && ((d.player == d'.player) && ((d.other == d'.other) && ((d.yes == d'.yes) && ((d.runs == d'.runs) && ((d.overs == d'.overs) && ((decide (d.ball = d'.ball)) && true)))))))) := by
    obtain ⟨a1, a2, a3, a4, a5, a6, a7, a8⟩ := d
    obtain ⟨b1, b2, b3, b4, b5, b6, b7, b8⟩ := d'
    rw [Bool.eq_iff_iff]
    simp [Ev.mk.injEq]
  rw [h]
  refine eqf_and (by decide) (by simp [evE, delE, Tryz.isAgg31]; rfl) (by simp [evE, delE, Tryz.isAgg31]; rfl) (run_equalIn_int _ _ _ _ _ _ _ Tryz.underlying31) ?_
  refine eqf_and (by decide) (by simp [evE, delE, Tryz.isAgg3]; rfl) (by simp [evE, delE, Tryz.isAgg3]; rfl) (run_equalIn_int _ _ _ _ _ _ _ Tryz.underlying3) ?_
  refine eqf_and (by decide) (by simp [evE, delE, Tryz.isAgg3]; rfl) (by simp [evE, delE, Tryz.isAgg3]; rfl) (run_equalIn_int _ _ _ _ _ _ _ Tryz.underlying3) ?_
  refine eqf_and (by decide) (by simp [evE, delE, Tryz.isAgg3]; rfl) (by simp [evE, delE, Tryz.isAgg3]; rfl) (run_equalIn_int _ _ _ _ _ _ _ Tryz.underlying3) ?_
  refine eqf_and (by decide) (by simp [evE, delE, Tryz.isAgg4]; rfl) (by simp [evE, delE, Tryz.isAgg4]; rfl) (run_equalIn_bool' _ _ _ _ _ Tryz.underlying4) ?_
  refine eqf_and (by decide) (by simp [evE, delE, Tryz.isAgg3]; rfl) (by simp [evE, delE, Tryz.isAgg3]; rfl) (run_equalIn_int _ _ _ _ _ _ _ Tryz.underlying3) ?_
  refine eqf_and (by decide) (by simp [evE, delE, Tryz.isAgg3]; rfl) (by simp [evE, delE, Tryz.isAgg3]; rfl) (run_equalIn_int _ _ _ _ _ _ _ Tryz.underlying3) ?_
  refine eqf_and (by decide) (a := .agg (delA d.ball)) (b := .agg (delA d'.ball)) (ev_part d w) (ev_part d' w) (del_eqf n d.ball d'.ball w) ?_
  exact eqf_nil
theorem ev_eql (d d' : Ev) (w : World) : (binOp .eql 38 (.agg (evE d).toArray) (.agg (evE d').toArray)).run Tryz.prog w = .ok (.bool (decide (d = d'))) w := by
  rw [run_eql_struct, ev_eqf]
  rfl
theorem ev_neq (d d' : Ev) (w : World) : (binOp .neq 38 (.agg (evE d).toArray) (.agg (evE d').toArray)).run Tryz.prog w = .ok (.bool (!decide (d = d'))) w := by
  rw [run_neq_struct, ev_eqf]
  rfl
end Go.Proofs.YtdbiihfoafoljaaGreatDoor
