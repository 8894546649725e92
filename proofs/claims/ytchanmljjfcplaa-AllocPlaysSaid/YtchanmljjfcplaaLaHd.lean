/-
  Our own: the law functions besomlaw01.awake, HeapHeads, HeapWords, HeapOrders.
-/
import Derived.Test.YtchanmljjfcplaaRh
set_option linter.unusedVariables false
set_option linter.unusedSimpArgs false
namespace Go.Proofs.Ytchanmljjfcplaa
open Go.Sep
end Go.Proofs.Ytchanmljjfcplaa
