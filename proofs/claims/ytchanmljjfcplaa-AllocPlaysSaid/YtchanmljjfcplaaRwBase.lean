/-
  Our own: what all rows of the seat need: heads that are handed in.
-/
import Derived.Test.YtchanmljjfcplaaRows
import Derived.Test.YtchanmljjfcplaaRw
import Derived.Test.YtchanmljjfcplaaHd
set_option linter.unusedVariables false
namespace Go.Proofs.Ytchanmljjfcplaa
open Go.Sep Go.ChangeShapes Go.WideShapes Go.ChangeAt Go.RowKit
theorem ownGodebug : ownKnob Try.prog.godebug = none := by kernel_rfl
theorem laidOut : laidOutB Try.prog = true := by kernel_rfl
set_option maxRecDepth 100000 in
theorem open_head {H : Type} {enc : TypeId × Value → H} {W : World} {base b0 : Nat} {sp : Nat → Bool} {held : Bool} {r : Reach} {v : Value} {d : DataW H} {p : List MemPlace} (hv : Value.okWide Try.prog W r b0 46 v)
    (h : DataW.Trod enc Try.prog W base sp held 46 v d p) : ∃ k n p, v = headV k n p ∧ In64 k ∧ In64 n ∧ In64 p := by
  obtain ⟨a, b, c, e, wa, wb, wc⟩ := open_ints3 Try.underlying46 (by kernel_rfl) (by kernel_rfl) Try.underlying3 Try.underlying3 Try.underlying3 hv h
  exact ⟨a, b, c, e, bounds_i64 wa, bounds_i64 wb, bounds_i64 wc⟩
end Go.Proofs.Ytchanmljjfcplaa
