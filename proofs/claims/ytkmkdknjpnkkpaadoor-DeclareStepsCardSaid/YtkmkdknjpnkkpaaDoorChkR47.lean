/-
  Chapter 47: the reference's check of a distribution.
-/
import Derived.Test.YtkmkdknjpnkkpaaDoorChk47
set_option linter.unusedSimpArgs false
set_option linter.unusedVariables false
namespace Go.Proofs.YtkmkdknjpnkkpaaDoor
open Go.RowKit
set_option maxRecDepth 100000
set_option maxHeartbeats 1000000
end Go.Proofs.YtkmkdknjpnkkpaaDoor
