/-
  Our own: heaps: heap.Of.
-/
import Derived.Test.YtchanmljjfcplaaHq
set_option linter.unusedVariables false
set_option linter.unusedSimpArgs false
namespace Go.Proofs.Ytchanmljjfcplaa
open Go.Sep
/-- Where objects begin, from place i on; none: a word is no head, or its object doesn't end by T. -/
def ofF (ws : List Int) (T : Nat) : Nat → Nat → List Bool → Option (List Bool)
  | 0, _, st => some st
  | f + 1, i, st => if i < T then
      match ws[i]? with
      | some w => if wordB w = true ∧ i + 1 + (unN w).toNat ≤ T then ofF ws T f (i + 1 + (unN w).toNat) (st.set i true) else none
      | none => none
    else some st
theorem unN_in {w : Int} (h : wordB w = true) : 0 ≤ unN w ∧ unN w ≤ 4095 := by
  obtain ⟨_, h1, _⟩ := un_packI h
  have := of_decide_eq_true h1
  omega
section ops
variable {R : HP} {a : Option Addr} {cap : Nat}
end ops
end Go.Proofs.Ytchanmljjfcplaa
