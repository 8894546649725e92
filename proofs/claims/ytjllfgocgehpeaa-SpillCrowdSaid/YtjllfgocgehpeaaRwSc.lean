/-
  The row besomlaw08.SpillCrowd: whatever number is handed in: true. No condition.
-/
import Derived.Test.YtjllfgocgehpeaaRwB
import Derived.Test.YtjllfgocgehpeaaLaSc
set_option linter.unusedVariables false
namespace Go.Proofs.Ytjllfgocgehpeaa
open Go.Sep Go.ChangeShapes Go.WideShapes Go.ChangeAt Go.RowKit
set_option maxRecDepth 100000 in
theorem SpillCrowd_lifted (os : Os) (started : os.Started) (H : Type) (enc : TypeId × Value → H) :
    ReturnsInHanded {} Try.checked os 3 .any (Rows.spillCrowdSpec.pre6 enc Try.prog Try.f3 Rows.spillCrowdRow.domain false) (Rows.spillCrowdSpec.post enc Try.prog Try.f3 false true false false) := by
  refine law_lifted (C := Try.checked) ownGodebug os started (by kernel_rfl) Try.func3 laidOut (by kernel_rfl) rfl Try.underlying4 rfl (fun ds h => ?_)
    (ChangeSpec.witness6 (enc := enc) (C := Try.checked) false ⟨#[], #[.int .u8 0], []⟩ 8 (by kernel_rfl) (by kernel_rfl) (by kernel_rfl) (by kernel_rfl)) ?_
  · match ds, h with
    | [d0], _ => rfl
  intro W base args ds ps hval hA
  rw [Try.params3] at hA hval
  obtain ⟨v0, vs0, d0, ds0, p0, q0, hargs, rfl, rfl, h0, r0⟩ := trodAll_cons hA
  obtain ⟨rfl, rfl, rfl⟩ := trodAll_nil r0
  obtain rfl : args = #[v0] := by cases args; simp_all
  obtain ⟨k, rfl, rfl, rfl, w0⟩ := open_int Try.underlying5 (hval 0 _ v0 rfl rfl) h0
  obtain ⟨g, rfl⟩ := Int.eq_ofNat_of_zero_le (bounds_u8 w0).1
  have b0 := (bounds_u8 w0).2
  exact Does.calls ((SpillCrowd_spec g (by omega)).frame _)
theorem spillCrowd_holds : Rows.SpillCrowdSaid :=
  OpenClaim.holds_of_wide 3 Try.f3 rfl rfl rfl rfl rfl rfl rfl ⟨rfl, rfl, rfl, rfl, rfl⟩ rfl rfl rfl rfl rfl (by kernel_rfl) Try.func3 (by kernel_rfl)
    (of_decide_eq_true (by kernel_rfl)) (by unfold Func.isWrapper; first | (rw [if_pos (by decide +kernel)]; kernel_rfl) | (rw [if_neg (by decide +kernel)]; exact ⟨rfl, rfl⟩))
    (fun os started H enc _ => SpillCrowd_lifted os started H enc)
#print axioms spillCrowd_holds
end Go.Proofs.Ytjllfgocgehpeaa
