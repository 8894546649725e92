/-
  Our own: what all rows of the seat need.
-/
import Derived.Test.YtepchcdmcbpfgaaRows
import Derived.Test.YtepchcdmcbpfgaaRw
import Derived.Test.YtepchcdmcbpfgaaTi
set_option linter.unusedVariables false
namespace Go.Proofs.Ytepchcdmcbpfgaa
open Go.Sep Go.ChangeShapes Go.WideShapes Go.ChangeAt Go.RowKit
theorem ownGodebug : ownKnob Try.prog.godebug = none := by kernel_rfl
theorem laidOut : laidOutB Try.prog = true := by kernel_rfl
end Go.Proofs.Ytepchcdmcbpfgaa
