/-
  The row besomlaw14.SliderSlides: whatever graph, workers, regions and picks are handed in: true, and they read as they did. No condition.
-/
import Derived.Test.YtahfnbpbdnmggaaZt6
import Derived.Test.YtahfnbpbdnmggaaRows
import Derived.ChangeArms
import Derived.WalkKit
import Derived.ProofKit
import Derived.OpenShut
import Derived.ChangeOld
import Derived.Below
import Derived.SizedLaws
import Derived.Carry
import Derived.Lib.SmallJoins
import Derived.Laws.StructEq
import Derived.Tactics
import Derived.Laws.Slices
import Derived.Deep.Quiet
import Derived.IntWalk
import Derived.Shelf.Abstract
import Derived.Laws.Entries
import Derived.Laws.Rows
import Derived.TacticsIn
import Derived.OrdersIn
import Derived.KernelRfl
import Derived.RangeFuncStops
import Derived.RangeFuncLeaves
import Derived.LoopNIn
import Derived.Test.YtahfnbpbdnmggaaProg
import Derived.Laws.Shifts
import Derived.Laws.Bits64b
/-
  The row besomlaw14.SliderSlides: whatever graph, workers, regions and picks are handed in: true, and they read as they did. No condition.
-/
set_option linter.unusedVariables false
namespace Go.Proofs.Ytahfnbpbdnmggaa
open Go.Sep Go.ChangeShapes Go.WideShapes Go.ChangeAt Go.RowKit
set_option maxRecDepth 100000 in
theorem SliderSlides_lifted (os : Os) (started : os.Started) (H : Type) (enc : TypeId × Value → H) :
    ReturnsInHanded {} Try.checked os 6 .any (Rows.sliderSlidesSpec.pre6 enc Try.prog Try.f6 Rows.sliderSlidesRow.domain false) (Rows.sliderSlidesSpec.post enc Try.prog Try.f6 false true false false) := by
  refine law_lifted (C := Try.checked) ownGodebug os started (by kernel_rfl) Try.func6 laidOut (by kernel_rfl) rfl Try.underlying4 rfl (fun ds h => ?_)
    (ChangeSpec.witness6 (enc := enc) (C := Try.checked) false ⟨#[], #[.agg #[.slice none 0 0, .slice none 0 0], .agg #[.int .u8 0, .int .u8 0], .slice none 0 0], []⟩ 8 (by kernel_rfl) (by kernel_rfl) (by kernel_rfl) (by kernel_rfl)) ?_
  · match ds, h with
    | [d0, d1, d2], _ => rfl
  intro W base args ds ps hval hA
  rw [Try.params6] at hA hval
  obtain ⟨v0, vs0, d0, ds0, p0, q0, hargs, rfl, rfl, h0, r0⟩ := trodAll_cons hA
  obtain ⟨v1, vs1, d1, ds1, p1, q1, rfl, rfl, rfl, h1, r1⟩ := trodAll_cons r0
  obtain ⟨v2, vs2, d2, ds2, p2, q2, rfl, rfl, rfl, h2, r2⟩ := trodAll_cons r1
  obtain ⟨rfl, rfl, rfl⟩ := trodAll_nil r2
  obtain rfl : args = #[v0, v1, v2] := by cases args; simp_all
  obtain ⟨g, rfl, hG⟩ := open_gg (hval 0 _ v0 rfl rfl) h0
  obtain ⟨ns, rfl, hnl, hns⟩ := open_arrN Try.underlying66 Try.underlying5 (by kernel_rfl) (by kernel_rfl) (hval 1 _ v1 rfl rfl) h1
  obtain ⟨x0, x1, rfl⟩ : ∃ x0 x1, ns = [x0, x1] := by
    match ns, hnl with
    | [x, y], _ => exact ⟨x, y, rfl⟩
  obtain ⟨zs, oa, oc, rfl, hz, hzb, hzl⟩ := open_u8s (hval 2 _ v2 rfl rfl) h2
  exact Does.calls (SliderSlides_law hG hz hzb hzl (bounds_u8 (hns _ (.head _))) (bounds_u8 (hns _ (.tail _ (.head _)))))
theorem sliderSlides_holds : Rows.SliderSlidesSaid :=
  OpenClaim.holds_of_wide 6 Try.f6 rfl rfl rfl rfl rfl rfl rfl ⟨rfl, rfl, rfl, rfl, rfl⟩ rfl rfl rfl rfl rfl (by kernel_rfl) Try.func6 (by kernel_rfl)
    (of_decide_eq_true (by kernel_rfl)) (by unfold Func.isWrapper; first | (rw [if_pos (by decide +kernel)]; kernel_rfl) | (rw [if_neg (by decide +kernel)]; exact ⟨rfl, rfl⟩))
    (fun os started H enc _ => SliderSlides_lifted os started H enc)
#print axioms sliderSlides_holds
end Go.Proofs.Ytahfnbpbdnmggaa
