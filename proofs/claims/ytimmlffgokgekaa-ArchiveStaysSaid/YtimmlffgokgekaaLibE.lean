/-
  Chapter 8: the shelf's contracts of the library, laid at this program.
-/
import Derived.Test.YtimmlffgokgekaaRows
import Derived.Test.YtimmlffgokgekaaBase
import Derived.WalkKit
import Derived.Shelf.Small.Strs
set_option linter.unusedSimpArgs false
set_option linter.unusedVariables false
namespace Go.Proofs.Ytimmlffgokgekaa
open Go.Shelf Go.RowKit
set_option maxRecDepth 100000
set_option maxHeartbeats 4000000
def Try.laysIB_ren : Go.Shelf.Ren := ⟨fun | 137 => 61 | 217 => 76 | 266 => 83 | n => n, fun | 9 => 9 | 5 => 5 | 3 => 3 | n => n, fun n => n⟩
theorem Try.laysIB : Go.Proofs.Lays.n137 Try.prog Try.laysIB_ren where
  mixed := by kernel_rfl
  f137 := by kernel_rfl
  f217 := by kernel_rfl
  f266 := by kernel_rfl
  t3 := Try.underlying3
  a3 := Try.isAgg3
  z3 := Try.sizeOf3
  v3 := Try.zeroValue3
  t5 := Try.underlying5
  a5 := Try.isAgg5
  z5 := Try.sizeOf5
  v5 := Try.zeroValue5
  t9 := Try.underlying9
  a9 := Try.isAgg9
  z9 := Try.sizeOf9
  v9 := Try.zeroValue9

theorem Try.ib_p (s : ByteArray) (c : Int) (w : World) :
    Calls Try.prog 61 #[.string s, .int .u8 c] w fun e w' => e = .returned (.int .i64 (Lib.indexByte s.data.toList c.toNat.toUInt8)) ∧ w = w' :=
  (Any.strings_IndexByte Try.laysIB s c w).mono fun _ _ ⟨h1, h2⟩ => ⟨h1, h2.symm⟩
end Go.Proofs.Ytimmlffgokgekaa
