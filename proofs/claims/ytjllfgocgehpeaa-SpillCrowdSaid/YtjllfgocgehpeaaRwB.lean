/-
  Our own: what all rows of the seat need.
-/
import Derived.Test.YtjllfgocgehpeaaRows
import Derived.Test.YtjllfgocgehpeaaRw
import Derived.Test.YtjllfgocgehpeaaTi
set_option linter.unusedVariables false
namespace Go.Proofs.Ytjllfgocgehpeaa
open Go.Sep Go.ChangeShapes Go.WideShapes Go.ChangeAt Go.RowKit
theorem ownGodebug : ownKnob Try.prog.godebug = none := by kernel_rfl
theorem laidOut : laidOutB Try.prog = true := by kernel_rfl
end Go.Proofs.Ytjllfgocgehpeaa
