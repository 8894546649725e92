/-
  The row besomlaw06.DequeSteps: whatever numbers are handed in: true, and they read as they did. No condition.
-/
import Derived.Test.YtjllfgocgehpeaaRwB
import Derived.Test.YtjllfgocgehpeaaLaDs
set_option linter.unusedVariables false
namespace Go.Proofs.Ytjllfgocgehpeaa
open Go.Sep Go.ChangeShapes Go.WideShapes Go.ChangeAt Go.RowKit
set_option maxRecDepth 100000 in
theorem DequeSteps_lifted (os : Os) (started : os.Started) (H : Type) (enc : TypeId × Value → H) :
    ReturnsInHanded {} Try.checked os 14 .any (Rows.dequeStepsSpec.pre6 enc Try.prog Try.f14 Rows.dequeStepsRow.domain false) (Rows.dequeStepsSpec.post enc Try.prog Try.f14 false true false false) := by
  refine law_lifted (C := Try.checked) ownGodebug os started (by kernel_rfl) Try.func14 laidOut (by kernel_rfl) rfl Try.underlying4 rfl (fun ds h => ?_)
    (ChangeSpec.witness6 (enc := enc) (C := Try.checked) false ⟨#[], #[.slice none 0 0], []⟩ 8 (by kernel_rfl) (by kernel_rfl) (by kernel_rfl) (by kernel_rfl)) ?_
  · match ds, h with
    | [d0], _ => rfl
  intro W base args ds ps hval hA
  rw [Try.params14] at hA hval
  obtain ⟨v0, vs0, d0, ds0, p0, q0, hargs, rfl, rfl, h0, r0⟩ := trodAll_cons hA
  obtain ⟨rfl, rfl, rfl⟩ := trodAll_nil r0
  obtain rfl : args = #[v0] := by cases args; simp_all
  obtain ⟨a, cap, zs, rfl, hR, hz, _, _⟩ := open_intSlice Try.underlying40 Try.underlying5 (by kernel_rfl) (hval 0 _ v0 rfl rfl) h0
  exact Does.calls (DequeSteps_spec zs hR fun z h => bounds_u8 (hz z h))
theorem dequeSteps_holds : Rows.DequeStepsSaid :=
  OpenClaim.holds_of_wide 14 Try.f14 rfl rfl rfl rfl rfl rfl rfl ⟨rfl, rfl, rfl, rfl, rfl⟩ rfl rfl rfl rfl rfl (by kernel_rfl) Try.func14 (by kernel_rfl)
    (of_decide_eq_true (by kernel_rfl)) (by unfold Func.isWrapper; first | (rw [if_pos (by decide +kernel)]; kernel_rfl) | (rw [if_neg (by decide +kernel)]; exact ⟨rfl, rfl⟩))
    (fun os started H enc _ => DequeSteps_lifted os started H enc)
#print axioms dequeSteps_holds
end Go.Proofs.Ytjllfgocgehpeaa
