/-
  The row besomlaw14.SliderWhole: whatever graph, workers and regions are handed in: true, and they read as they did. No condition.
-/
import Derived.Test.YtahfnbpbdnmggaaZw5
import Derived.Test.YtahfnbpbdnmggaaRows
import Derived.ChangeArms
import Derived.WalkKit
import Derived.ProofKit
import Derived.OpenShut
import Derived.ChangeOld
import Derived.Below
import Derived.SizedLaws
import Derived.Carry
import Derived.Lib.SmallJoins
import Derived.Laws.StructEq
import Derived.Tactics
import Derived.Laws.Slices
import Derived.Deep.Quiet
import Derived.IntWalk
import Derived.Shelf.Abstract
import Derived.Laws.Entries
import Derived.Laws.Rows
import Derived.TacticsIn
import Derived.OrdersIn
import Derived.KernelRfl
import Derived.RangeFuncStops
import Derived.RangeFuncLeaves
import Derived.LoopNIn
import Derived.Test.YtahfnbpbdnmggaaProg
import Derived.Laws.Shifts
import Derived.Laws.Bits64b
/-
  The row besomlaw14.SliderWhole: whatever graph, workers and regions are handed in: true, and they read as they did. No condition.
-/
set_option linter.unusedVariables false
namespace Go.Proofs.Ytahfnbpbdnmggaa
open Go.Sep Go.ChangeShapes Go.WideShapes Go.ChangeAt Go.RowKit
set_option maxRecDepth 100000 in
theorem SliderWhole_lifted (os : Os) (started : os.Started) (H : Type) (enc : TypeId × Value → H) :
    ReturnsInHanded {} Try.checked os 5 .any (Rows.sliderWholeSpec.pre6 enc Try.prog Try.f5 Rows.sliderWholeRow.domain false) (Rows.sliderWholeSpec.post enc Try.prog Try.f5 false true false false) := by
  refine law_lifted (C := Try.checked) ownGodebug os started (by kernel_rfl) Try.func5 laidOut (by kernel_rfl) rfl Try.underlying4 rfl (fun ds h => ?_)
    (ChangeSpec.witness6 (enc := enc) (C := Try.checked) false ⟨#[], #[.agg #[.slice none 0 0, .slice none 0 0], .agg #[.int .u8 0, .int .u8 0]], []⟩ 8 (by kernel_rfl) (by kernel_rfl) (by kernel_rfl) (by kernel_rfl)) ?_
  · match ds, h with
    | [d0, d1], _ => rfl
  intro W base args ds ps hval hA
  rw [Try.params5] at hA hval
  obtain ⟨v0, vs0, d0, ds0, p0, q0, hargs, rfl, rfl, h0, r0⟩ := trodAll_cons hA
  obtain ⟨v1, vs1, d1, ds1, p1, q1, rfl, rfl, rfl, h1, r1⟩ := trodAll_cons r0
  obtain ⟨rfl, rfl, rfl⟩ := trodAll_nil r1
  obtain rfl : args = #[v0, v1] := by cases args; simp_all
  obtain ⟨g, rfl, hG, hcap⟩ := open_ggC (hval 0 _ v0 rfl rfl) h0
  obtain ⟨ns, rfl, hnl, hns⟩ := open_arrN Try.underlying66 Try.underlying5 (by kernel_rfl) (by kernel_rfl) (hval 1 _ v1 rfl rfl) h1
  obtain ⟨x0, x1, rfl⟩ : ∃ x0 x1, ns = [x0, x1] := by
    match ns, hnl with
    | [x, y], _ => exact ⟨x, y, rfl⟩
  exact Does.calls (SliderWhole_law hG hcap (bounds_u8 (hns _ (.head _))) (bounds_u8 (hns _ (.tail _ (.head _)))))
theorem sliderWhole_holds : Rows.SliderWholeSaid :=
  OpenClaim.holds_of_wide 5 Try.f5 rfl rfl rfl rfl rfl rfl rfl ⟨rfl, rfl, rfl, rfl, rfl⟩ rfl rfl rfl rfl rfl (by kernel_rfl) Try.func5 (by kernel_rfl)
    (of_decide_eq_true (by kernel_rfl)) (by unfold Func.isWrapper; first | (rw [if_pos (by decide +kernel)]; kernel_rfl) | (rw [if_neg (by decide +kernel)]; exact ⟨rfl, rfl⟩))
    (fun os started H enc _ => SliderWhole_lifted os started H enc)
#print axioms sliderWhole_holds
end Go.Proofs.Ytahfnbpbdnmggaa
