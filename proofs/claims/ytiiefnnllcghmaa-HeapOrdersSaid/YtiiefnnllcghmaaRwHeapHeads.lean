/-
  The rows besomlaw01.HeapHeads, HeapWords, HeapOrders: whatever the head, the word, the two heads: true, and they read as they did. No condition.
-/
import Derived.Test.YtiiefnnllcghmaaRwBase
import Derived.Test.YtiiefnnllcghmaaLaHd
set_option linter.unusedVariables false
namespace Go.Proofs.Ytiiefnnllcghmaa
open Go.Sep Go.ChangeShapes Go.WideShapes Go.ChangeAt Go.RowKit
set_option maxRecDepth 100000 in
theorem HeapHeads_lifted (os : Os) (started : os.Started) (H : Type) (enc : TypeId × Value → H) :
    ReturnsInHanded {} Try.checked os 4 .any (Rows.heapHeadsSpec.pre6 enc Try.prog Try.f4 Rows.heapHeadsRow.domain false) (Rows.heapHeadsSpec.post enc Try.prog Try.f4 false true false false) := by
  refine law_lifted (C := Try.checked) ownGodebug os started (by kernel_rfl) Try.func4 laidOut (by kernel_rfl) rfl Try.underlying4 rfl (fun ds h => ?_)
    (ChangeSpec.witness6 (enc := enc) (C := Try.checked) false ⟨#[], #[headV 0 0 0], []⟩ 8 (by kernel_rfl) (by kernel_rfl) (by kernel_rfl) (by kernel_rfl)) ?_
  · match ds, h with
    | [d0], _ => rfl
  intro W base args ds ps hval hA
  rw [Try.params4] at hA hval
  obtain ⟨v0, vs0, d0, ds0, p0, q0, hargs, rfl, rfl, h0, r0⟩ := trodAll_cons hA
  obtain ⟨rfl, rfl, rfl⟩ := trodAll_nil r0
  obtain rfl : args = #[v0] := by cases args; simp_all
  obtain ⟨k, n, p, rfl, _, _, _⟩ := open_head (hval 0 _ v0 rfl rfl) h0
  exact Does.calls ((HeapHeads_spec k n p).frame _)
theorem heapHeads_holds : Rows.HeapHeadsSaid :=
  OpenClaim.holds_of_wide 4 Try.f4 rfl rfl rfl rfl rfl rfl rfl ⟨rfl, rfl, rfl, rfl, rfl⟩ rfl rfl rfl rfl rfl (by kernel_rfl) Try.func4 (by kernel_rfl)
    (of_decide_eq_true (by kernel_rfl)) (by unfold Func.isWrapper; first | (rw [if_pos (by decide +kernel)]; kernel_rfl) | (rw [if_neg (by decide +kernel)]; exact ⟨rfl, rfl⟩))
    (fun os started H enc _ => HeapHeads_lifted os started H enc)
#print axioms heapHeads_holds
set_option maxRecDepth 100000 in
theorem HeapWords_lifted (os : Os) (started : os.Started) (H : Type) (enc : TypeId × Value → H) :
    ReturnsInHanded {} Try.checked os 5 .any (Rows.heapWordsSpec.pre6 enc Try.prog Try.f5 Rows.heapWordsRow.domain false) (Rows.heapWordsSpec.post enc Try.prog Try.f5 false true false false) := by
  refine law_lifted (C := Try.checked) ownGodebug os started (by kernel_rfl) Try.func5 laidOut (by kernel_rfl) rfl Try.underlying4 rfl (fun ds h => ?_)
    (ChangeSpec.witness6 (enc := enc) (C := Try.checked) false ⟨#[], #[.int .i64 0], []⟩ 8 (by kernel_rfl) (by kernel_rfl) (by kernel_rfl) (by kernel_rfl)) ?_
  · match ds, h with
    | [d0], _ => rfl
  intro W base args ds ps hval hA
  rw [Try.params5] at hA hval
  obtain ⟨v0, vs0, d0, ds0, p0, q0, hargs, rfl, rfl, h0, r0⟩ := trodAll_cons hA
  obtain ⟨rfl, rfl, rfl⟩ := trodAll_nil r0
  obtain rfl : args = #[v0] := by cases args; simp_all
  obtain ⟨k, rfl, rfl, rfl, w0⟩ := open_int Try.underlying3 (hval 0 _ v0 rfl rfl) h0
  exact Does.calls ((HeapWords_spec k (bounds_i64 w0)).frame _)
theorem heapWords_holds : Rows.HeapWordsSaid :=
  OpenClaim.holds_of_wide 5 Try.f5 rfl rfl rfl rfl rfl rfl rfl ⟨rfl, rfl, rfl, rfl, rfl⟩ rfl rfl rfl rfl rfl (by kernel_rfl) Try.func5 (by kernel_rfl)
    (of_decide_eq_true (by kernel_rfl)) (by unfold Func.isWrapper; first | (rw [if_pos (by decide +kernel)]; kernel_rfl) | (rw [if_neg (by decide +kernel)]; exact ⟨rfl, rfl⟩))
    (fun os started H enc _ => HeapWords_lifted os started H enc)
#print axioms heapWords_holds
set_option maxRecDepth 100000 in
theorem HeapOrders_lifted (os : Os) (started : os.Started) (H : Type) (enc : TypeId × Value → H) :
    ReturnsInHanded {} Try.checked os 3 .any (Rows.heapOrdersSpec.pre6 enc Try.prog Try.f3 Rows.heapOrdersRow.domain false) (Rows.heapOrdersSpec.post enc Try.prog Try.f3 false true false false) := by
  refine law_lifted (C := Try.checked) ownGodebug os started (by kernel_rfl) Try.func3 laidOut (by kernel_rfl) rfl Try.underlying4 rfl (fun ds h => ?_)
    (ChangeSpec.witness6 (enc := enc) (C := Try.checked) false ⟨#[], #[headV 0 0 0, headV 0 0 0], []⟩ 8 (by kernel_rfl) (by kernel_rfl) (by kernel_rfl) (by kernel_rfl)) ?_
  · match ds, h with
    | [d0, d1], _ => rfl
  intro W base args ds ps hval hA
  rw [Try.params3] at hA hval
  obtain ⟨v0, vs0, d0, ds0, p0, q0, hargs, rfl, rfl, h0, r0⟩ := trodAll_cons hA
  obtain ⟨v1, vs1, d1, ds1, p1, q1, rfl, rfl, rfl, h1, r1⟩ := trodAll_cons r0
  obtain ⟨rfl, rfl, rfl⟩ := trodAll_nil r1
  obtain rfl : args = #[v0, v1] := by cases args; simp_all
  obtain ⟨k, n, p, rfl, _, _, _⟩ := open_head (hval 0 _ v0 rfl rfl) h0
  obtain ⟨k', n', p', rfl, _, _, _⟩ := open_head (hval 1 _ v1 rfl rfl) h1
  exact Does.calls ((HeapOrders_spec k n p k' n' p').frame _)
theorem heapOrders_holds : Rows.HeapOrdersSaid :=
  OpenClaim.holds_of_wide 3 Try.f3 rfl rfl rfl rfl rfl rfl rfl ⟨rfl, rfl, rfl, rfl, rfl⟩ rfl rfl rfl rfl rfl (by kernel_rfl) Try.func3 (by kernel_rfl)
    (of_decide_eq_true (by kernel_rfl)) (by unfold Func.isWrapper; first | (rw [if_pos (by decide +kernel)]; kernel_rfl) | (rw [if_neg (by decide +kernel)]; exact ⟨rfl, rfl⟩))
    (fun os started H enc _ => HeapOrders_lifted os started H enc)
#print axioms heapOrders_holds
end Go.Proofs.Ytiiefnnllcghmaa
