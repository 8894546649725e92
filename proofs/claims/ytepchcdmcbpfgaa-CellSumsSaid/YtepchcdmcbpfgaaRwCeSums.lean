/-
  The row besomlaw03.CellSums: whatever numbers are handed in: true, and they read as they did. No condition.
-/
import Derived.Test.YtepchcdmcbpfgaaRwB
import Derived.Test.YtepchcdmcbpfgaaLaCe
set_option linter.unusedVariables false
namespace Go.Proofs.Ytepchcdmcbpfgaa
open Go.Sep Go.ChangeShapes Go.WideShapes Go.ChangeAt Go.RowKit
set_option maxRecDepth 100000 in
theorem CellSums_lifted (os : Os) (started : os.Started) (H : Type) (enc : TypeId × Value → H) :
    ReturnsInHanded {} Try.checked os 3 .any (Rows.cellSumsSpec.pre6 enc Try.prog Try.f3 Rows.cellSumsRow.domain false) (Rows.cellSumsSpec.post enc Try.prog Try.f3 false true false false) := by
  refine law_lifted (C := Try.checked) ownGodebug os started (by kernel_rfl) Try.func3 laidOut (by kernel_rfl) rfl Try.underlying4 rfl (fun ds h => ?_)
    (ChangeSpec.witness6 (enc := enc) (C := Try.checked) false ⟨#[], #[.slice none 0 0], []⟩ 8 (by kernel_rfl) (by kernel_rfl) (by kernel_rfl) (by kernel_rfl)) ?_
  · match ds, h with
    | [d0], _ => rfl
  intro W base args ds ps hval hA
  rw [Try.params3] at hA hval
  obtain ⟨v0, vs0, d0, ds0, p0, q0, hargs, rfl, rfl, h0, r0⟩ := trodAll_cons hA
  obtain ⟨rfl, rfl, rfl⟩ := trodAll_nil r0
  obtain rfl : args = #[v0] := by cases args; simp_all
  obtain ⟨a, cap, zs, rfl, hR, hz, _, _⟩ := open_intSlice Try.underlying22 Try.underlying21 (by kernel_rfl) (hval 0 _ v0 rfl rfl) h0
  exact Does.calls (CellSums_spec zs hR fun z h => bounds_i32 (hz z h))
theorem cellSums_holds : Rows.CellSumsSaid :=
  OpenClaim.holds_of_wide 3 Try.f3 rfl rfl rfl rfl rfl rfl rfl ⟨rfl, rfl, rfl, rfl, rfl⟩ rfl rfl rfl rfl rfl (by kernel_rfl) Try.func3 (by kernel_rfl)
    (of_decide_eq_true (by kernel_rfl)) (by unfold Func.isWrapper; first | (rw [if_pos (by decide +kernel)]; kernel_rfl) | (rw [if_neg (by decide +kernel)]; exact ⟨rfl, rfl⟩))
    (fun os started H enc _ => CellSums_lifted os started H enc)
#print axioms cellSums_holds
end Go.Proofs.Ytepchcdmcbpfgaa
