/-
  What the rows of chapters 54 and 56 (texts) list gives what the library's functions want of a world.
-/
import Derived.Test.YtpninpohligomaaGreatDoorNumT
import Derived.Lib.LaidTab
import Derived.LaidSub
import Derived.Stop.LaidErr
import Derived.Shelf.Vars
import Derived.MakeChecks
set_option linter.unusedSimpArgs false
set_option linter.unusedVariables false
namespace Go.Proofs.YtpninpohligomaaGreatDoor
open Go.RowKit
set_option maxRecDepth 100000

theorem tab_eq : (Rows.laid_internal_strconv_uint64pow10 : DataW Unit) = Lib.tabData .u64 Lib.pow10Tab := by kernel_rfl
theorem star_err : "*" ++ "errors.errorString" = "*errors.errorString" := by decide
theorem row_err (u : TypeId) (h : Tryz.prog.typeName? 3 u = some "*errors.errorString") : u = 166 :=
  typeName_ptr_named (nm := "errors.errorString") (by rw [star_err]; kernel_rfl) (by kernel_rfl) (by decide) u (by rw [star_err]; exact h)
theorem libW_of {W : World} (h : laidMetH Tryz.prog Rows.conductTextsRow.laid W) (hs : W.ShapedOpen Tryz.prog) : LibW W := by
  rw [MakeChecks.laidMetH_plain _ _ _ (by kernel_rfl)] at h
  have h1 := h.filter (fun x => x.1 == "internal/strconv.uint64pow10")
  have h2 := h.filter (fun x => x.1 == "strconv.ErrRange")
  rw [show (Rows.conductTextsRow.laid.filter fun x => x.1 == "internal/strconv.uint64pow10") = [("internal/strconv.uint64pow10", Lib.tabData .u64 Lib.pow10Tab)] from by kernel_rfl] at h1
  rw [show (Rows.conductTextsRow.laid.filter fun x => x.1 == "strconv.ErrRange") = [("strconv.ErrRange", Rows.laid_strconv_ErrRange)] from by kernel_rfl] at h2
  have hgE : Tryz.prog.globalNamed "strconv.ErrRange" = some 3 := by kernel_rfl
  refine ⟨cell_of_shapedOpen_int hs (g := 1) (t := 3) (zero := #[.int .i64 0]) (of_decide_eq_true (by kernel_rfl)) (by kernel_rfl) rfl (by kernel_rfl) (by kernel_rfl) Tryz.underlying3, ?_, ?_⟩
  · obtain ⟨a, s, hv, _, _, _⟩ := laid_sentinel (g := 3) (ti := 69) (tp := 166) (te := 168) (ts := 9) h2 hgE (by kernel_rfl) Tryz.underlying69 row_err Tryz.underlying166 Tryz.underlying168 rfl rfl Tryz.underlying9 (by kernel_rfl) (by kernel_rfl)
    exact ⟨_, by have h0 := World.var?_cell hgE hv 0; simpa using h0, .inr ⟨_, _, rfl⟩⟩
  · exact Lib.tabIs_of_head (g := 0) (t := 146) (e := 103) (n := 20) (by kernel_rfl) (by kernel_rfl) Tryz.underlying146 Tryz.underlying103 (by kernel_rfl) (by kernel_rfl) h1
end Go.Proofs.YtpninpohligomaaGreatDoor
