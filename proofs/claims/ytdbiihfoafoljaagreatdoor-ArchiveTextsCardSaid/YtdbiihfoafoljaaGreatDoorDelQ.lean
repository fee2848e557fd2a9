/-
  Chapters 7 and 8: two deliveries, two events compared.
-/
import Derived.Test.YtdbiihfoafoljaaGreatDoorEvC
import Derived.Laws.StructEq
set_option linter.unusedSimpArgs false
set_option linter.unusedVariables false
namespace Go.Proofs.YtdbiihfoafoljaaGreatDoor
open Go.RowKit
set_option maxRecDepth 100000
set_option maxHeartbeats 4000000
def delA (d : Del) : Array Value := #[.int .u8 d.ty, .int .u8 d.src, .int .i64 d.runs, .int .i64 d.short, .int .i64 d.bd, .bool d.cr, .int .u8 d.how, .int .i64 d.vic, .int .i64 d.fd, .int .i64 d.sd, .bool d.sub, .int .i64 d.sec]
theorem eqf_and {P : Program} {d : Nat} {xs ys : Array Value} {f : Field} {fs : List Field} {a b : Value} {v r : Bool} {w : World} (hn : f.name ≠ "_") (ha : (part f.type xs f.offset).run P w = .ok a w) (hb : (part f.type ys f.offset).run P w = .ok b w) (he : (Op.equalIn d f.type a b).run P w = .ok v w)
    (hr : (Op.eqFields d xs ys fs).run P w = .ok r w) : (Op.eqFields d xs ys (f :: fs)).run P w = .ok (v && r) w := by
  simp only [Op.eqFields, if_pos hn, Sem.run_bind, ha, hb, he, Result.andThen_ok]
  cases v <;> simp [hr]
theorem eqf_nil {P : Program} {d : Nat} {xs ys : Array Value} {w : World} : (Op.eqFields d xs ys []).run P w = .ok true w := rfl
theorem del_eqf (n : Nat) (d d' : Del) (w : World) : (Op.equalIn (n + 2) 36 (.agg (delA d)) (.agg (delA d'))).run Tryz.prog w = .ok (decide (d = d')) w := by
  rw [run_equalIn_agg _ _ _ _ _ (by kernel_rfl) (by kernel_rfl)]
  unfold Program.fieldsOf
  simp only [Tryz.underlying36]
  have h : decide (d = d') = ((d.ty == d'.ty) && ((d.src == d'.src) && ((d.runs == d'.runs) && ((d.short == d'.short) && ((d.bd == d'.bd) && ((d.cr == d'.cr) && ((d.how == d'.how) && ((d.vic == d'.vic) && ((d.fd == d'.fd) && ((d.sd == d'.sd) && ((d.sub == d'.sub) && ((d.sec == d'.sec) && true)))))))))))) := by
    obtain ⟨a1, a2, a3, a4, a5, a6, a7, a8, a9, a10, a11, a12⟩ := d
    obtain ⟨b1, b2, b3, b4, b5, b6, b7, b8, b9, b10, b11, b12⟩ := d'
    rw [Bool.eq_iff_iff]
    simp [Del.mk.injEq]
  rw [h]
  refine eqf_and (by decide) (by simp [delA, Tryz.isAgg32]; rfl) (by simp [delA, Tryz.isAgg32]; rfl) (run_equalIn_int _ _ _ _ _ _ _ Tryz.underlying32) ?_
  refine eqf_and (by decide) (by simp [delA, Tryz.isAgg33]; rfl) (by simp [delA, Tryz.isAgg33]; rfl) (run_equalIn_int _ _ _ _ _ _ _ Tryz.underlying33) ?_
  refine eqf_and (by decide) (by simp [delA, Tryz.isAgg3]; rfl) (by simp [delA, Tryz.isAgg3]; rfl) (run_equalIn_int _ _ _ _ _ _ _ Tryz.underlying3) ?_
  refine eqf_and (by decide) (by simp [delA, Tryz.isAgg3]; rfl) (by simp [delA, Tryz.isAgg3]; rfl) (run_equalIn_int _ _ _ _ _ _ _ Tryz.underlying3) ?_
  refine eqf_and (by decide) (by simp [delA, Tryz.isAgg3]; rfl) (by simp [delA, Tryz.isAgg3]; rfl) (run_equalIn_int _ _ _ _ _ _ _ Tryz.underlying3) ?_
  refine eqf_and (by decide) (by simp [delA, Tryz.isAgg4]; rfl) (by simp [delA, Tryz.isAgg4]; rfl) (run_equalIn_bool' _ _ _ _ _ Tryz.underlying4) ?_
  refine eqf_and (by decide) (by simp [delA, Tryz.isAgg34]; rfl) (by simp [delA, Tryz.isAgg34]; rfl) (run_equalIn_int _ _ _ _ _ _ _ Tryz.underlying34) ?_
  refine eqf_and (by decide) (by simp [delA, Tryz.isAgg3]; rfl) (by simp [delA, Tryz.isAgg3]; rfl) (run_equalIn_int _ _ _ _ _ _ _ Tryz.underlying3) ?_
  refine eqf_and (by decide) (by simp [delA, Tryz.isAgg3]; rfl) (by simp [delA, Tryz.isAgg3]; rfl) (run_equalIn_int _ _ _ _ _ _ _ Tryz.underlying3) ?_
  refine eqf_and (by decide) (by simp [delA, Tryz.isAgg3]; rfl) (by simp [delA, Tryz.isAgg3]; rfl) (run_equalIn_int _ _ _ _ _ _ _ Tryz.underlying3) ?_
  refine eqf_and (by decide) (by simp [delA, Tryz.isAgg4]; rfl) (by simp [delA, Tryz.isAgg4]; rfl) (run_equalIn_bool' _ _ _ _ _ Tryz.underlying4) ?_
  refine eqf_and (by decide) (by simp [delA, Tryz.isAgg3]; rfl) (by simp [delA, Tryz.isAgg3]; rfl) (run_equalIn_int _ _ _ _ _ _ _ Tryz.underlying3) ?_
  exact eqf_nil
theorem del_eql (d d' : Del) (w : World) : (binOp .eql 36 (.agg (delA d)) (.agg (delA d'))).run Tryz.prog w = .ok (.bool (decide (d = d'))) w := by
  rw [run_eql_struct, del_eqf]
  rfl
theorem del_neq (d d' : Del) (w : World) : (binOp .neq 36 (.agg (delA d)) (.agg (delA d'))).run Tryz.prog w = .ok (.bool (!decide (d = d'))) w := by
  rw [run_neq_struct, del_eqf]
  rfl
end Go.Proofs.YtdbiihfoafoljaaGreatDoor
