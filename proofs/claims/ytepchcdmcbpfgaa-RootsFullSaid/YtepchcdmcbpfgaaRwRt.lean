/-
  The rows besomlaw09.RootsFull, RootsTail: whatever numbers are handed in: true, and they read as they did. No condition.
-/
import Derived.Test.YtepchcdmcbpfgaaRwB
import Derived.Test.YtepchcdmcbpfgaaLaRt
set_option linter.unusedVariables false
namespace Go.Proofs.Ytepchcdmcbpfgaa
open Go.Sep Go.ChangeShapes Go.WideShapes Go.ChangeAt Go.RowKit
set_option maxRecDepth 100000 in
theorem RootsFull_lifted (os : Os) (started : os.Started) (H : Type) (enc : TypeId × Value → H) :
    ReturnsInHanded {} Try.checked os 9 .any (Rows.rootsFullSpec.pre6 enc Try.prog Try.f9 Rows.rootsFullRow.domain false) (Rows.rootsFullSpec.post enc Try.prog Try.f9 false true false false) := by
  refine law_lifted (C := Try.checked) ownGodebug os started (by kernel_rfl) Try.func9 laidOut (by kernel_rfl) rfl Try.underlying4 rfl (fun ds h => ?_)
    (ChangeSpec.witness6 (enc := enc) (C := Try.checked) false ⟨#[], #[.int .u8 0], []⟩ 8 (by kernel_rfl) (by kernel_rfl) (by kernel_rfl) (by kernel_rfl)) ?_
  · match ds, h with
    | [d0], _ => rfl
  intro W base args ds ps hval hA
  rw [Try.params9] at hA hval
  obtain ⟨v0, vs0, d0, ds0, p0, q0, hargs, rfl, rfl, h0, r0⟩ := trodAll_cons hA
  obtain ⟨rfl, rfl, rfl⟩ := trodAll_nil r0
  obtain rfl : args = #[v0] := by cases args; simp_all
  obtain ⟨k, rfl, rfl, rfl, w0⟩ := open_int Try.underlying5 (hval 0 _ v0 rfl rfl) h0
  exact Does.calls ((RootsFull_spec k (bounds_u8 w0).1 (bounds_u8 w0).2).frame _)
theorem rootsFull_holds : Rows.RootsFullSaid :=
  OpenClaim.holds_of_wide 9 Try.f9 rfl rfl rfl rfl rfl rfl rfl ⟨rfl, rfl, rfl, rfl, rfl⟩ rfl rfl rfl rfl rfl (by kernel_rfl) Try.func9 (by kernel_rfl)
    (of_decide_eq_true (by kernel_rfl)) (by unfold Func.isWrapper; first | (rw [if_pos (by decide +kernel)]; kernel_rfl) | (rw [if_neg (by decide +kernel)]; exact ⟨rfl, rfl⟩))
    (fun os started H enc _ => RootsFull_lifted os started H enc)
#print axioms rootsFull_holds
set_option maxRecDepth 100000 in
theorem RootsTail_lifted (os : Os) (started : os.Started) (H : Type) (enc : TypeId × Value → H) :
    ReturnsInHanded {} Try.checked os 12 .any (Rows.rootsTailSpec.pre6 enc Try.prog Try.f12 Rows.rootsTailRow.domain false) (Rows.rootsTailSpec.post enc Try.prog Try.f12 false true false false) := by
  refine law_lifted (C := Try.checked) ownGodebug os started (by kernel_rfl) Try.func12 laidOut (by kernel_rfl) rfl Try.underlying4 rfl (fun ds h => ?_)
    (ChangeSpec.witness6 (enc := enc) (C := Try.checked) false ⟨#[], #[.slice none 0 0], []⟩ 8 (by kernel_rfl) (by kernel_rfl) (by kernel_rfl) (by kernel_rfl)) ?_
  · match ds, h with
    | [d0], _ => rfl
  intro W base args ds ps hval hA
  rw [Try.params12] at hA hval
  obtain ⟨v0, vs0, d0, ds0, p0, q0, hargs, rfl, rfl, h0, r0⟩ := trodAll_cons hA
  obtain ⟨rfl, rfl, rfl⟩ := trodAll_nil r0
  obtain rfl : args = #[v0] := by cases args; simp_all
  obtain ⟨a, cap, zs, rfl, hR, hz, _, _⟩ := open_intSlice Try.underlying62 Try.underlying63 (by kernel_rfl) (hval 0 _ v0 rfl rfl) h0
  exact Does.calls (RootsTail_spec zs hR fun z h => bounds_u16 (hz z h))
theorem rootsTail_holds : Rows.RootsTailSaid :=
  OpenClaim.holds_of_wide 12 Try.f12 rfl rfl rfl rfl rfl rfl rfl ⟨rfl, rfl, rfl, rfl, rfl⟩ rfl rfl rfl rfl rfl (by kernel_rfl) Try.func12 (by kernel_rfl)
    (of_decide_eq_true (by kernel_rfl)) (by unfold Func.isWrapper; first | (rw [if_pos (by decide +kernel)]; kernel_rfl) | (rw [if_neg (by decide +kernel)]; exact ⟨rfl, rfl⟩))
    (fun os started H enc _ => RootsTail_lifted os started H enc)
#print axioms rootsTail_holds
end Go.Proofs.Ytepchcdmcbpfgaa
