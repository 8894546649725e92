/-
  Our own: heaps: field, leads, Write, Split; what stays true of a heap.
-/
import Derived.Test.YtchanmljjfcplaaHw
set_option linter.unusedVariables false
set_option linter.unusedSimpArgs false
namespace Go.Proofs.Ytchanmljjfcplaa
open Go.Sep
/-- Where an object begins there is a head, its words end in the heap, and no other object begins in it. -/
structure HInv (n : Nat) (ws : List Int) (st : List Bool) : Prop where
  wl : ws.length = n
  sl : st.length = n
  nb : n ≤ 65536
  w64 : ∀ w ∈ ws, In64 w
  obj : ∀ i : Nat, st[i]? = some true → ∃ w, ws[i]? = some w ∧ wordB w = true ∧ i + 1 + (unN w).toNat ≤ n ∧ ∀ j, i < j → j < i + 1 + (unN w).toNat → st[j]? ≠ some true
end Go.Proofs.Ytchanmljjfcplaa
