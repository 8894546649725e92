/-
  The row besomlaw06.DequeShared: whatever numbers are handed in: true, and they read as they did. No condition.
-/
import Derived.Test.YtjllfgocgehpeaaDhr3
import Derived.Test.YtjllfgocgehpeaaRows
import Derived.ChangeArms
import Derived.WalkKit
import Derived.ProofKit
import Derived.OpenShut
import Derived.ChangeOld
import Derived.Below
import Derived.SizedLaws
import Derived.Carry
import Derived.Lib.SmallJoins
import Derived.Laws.StructEq
import Derived.Tactics
import Derived.Laws.Slices
import Derived.Deep.Quiet
import Derived.IntWalk
import Derived.Shelf.Abstract
import Derived.Laws.Entries
import Derived.Laws.Rows
import Derived.TacticsIn
import Derived.OrdersIn
import Derived.KernelRfl
import Derived.Test.YtjllfgocgehpeaaProg
import Derived.RangeFuncStops
import Derived.RangeFuncLeaves
import Derived.LoopNIn
import Derived.Maps.Range
import Derived.Maps.Views
/-
  The row besomlaw06.DequeShared: whatever numbers are handed in: true, and they read as they did. No condition.
-/
set_option linter.unusedVariables false
namespace Go.Proofs.Ytjllfgocgehpeaa
open Go.Sep Go.ChangeShapes Go.WideShapes Go.ChangeAt Go.RowKit
set_option maxRecDepth 100000 in
theorem DequeShared_lifted (os : Os) (started : os.Started) (H : Type) (enc : TypeId × Value → H) :
    ReturnsInHanded {} Try.checked os 13 .any (Rows.dequeSharedSpec.pre6 enc Try.prog Try.f13 Rows.dequeSharedRow.domain false) (Rows.dequeSharedSpec.post enc Try.prog Try.f13 false true false false) := by
  refine law_lifted (C := Try.checked) ownGodebug os started (by kernel_rfl) Try.func13 laidOut (by kernel_rfl) rfl Try.underlying4 rfl (fun ds h => ?_)
    (ChangeSpec.witness6 (enc := enc) (C := Try.checked) false ⟨#[], #[.slice none 0 0, .slice none 0 0], []⟩ 8 (by kernel_rfl) (by kernel_rfl) (by kernel_rfl) (by kernel_rfl)) ?_
  · match ds, h with
    | [d0, d1], _ => rfl
  intro W base args ds ps hval hA
  rw [Try.params13] at hA hval
  obtain ⟨v0, vs0, d0, ds0, p0, q0, hargs, rfl, rfl, h0, r0⟩ := trodAll_cons hA
  obtain ⟨v1, vs1, d1, ds1, p1, q1, rfl, rfl, rfl, h1, r1⟩ := trodAll_cons r0
  obtain ⟨rfl, rfl, rfl⟩ := trodAll_nil r1
  obtain rfl : args = #[v0, v1] := by cases args; simp_all
  obtain ⟨a, cap, zs, rfl, hR, hz, g1, g2⟩ := open_intSlice Try.underlying40 Try.underlying5 (by kernel_rfl) (hval 0 _ v0 rfl rfl) h0
  obtain ⟨a2, cap2, zs2, rfl, hR2, hz2, g3, g4⟩ := open_intSlice Try.underlying40 Try.underlying5 (by kernel_rfl) (hval 1 _ v1 rfl rfl) h1
  exact Does.calls (DequeShared_law hR (fun z h => bounds_u8 (hz z h)) (Nat.le_trans g1 (Nat.le_trans g2 (by decide))) hR2 (fun z h => bounds_u8 (hz2 z h)) (Nat.le_trans g3 (Nat.le_trans g4 (by decide))))
theorem dequeShared_holds : Rows.DequeSharedSaid :=
  OpenClaim.holds_of_wide 13 Try.f13 rfl rfl rfl rfl rfl rfl rfl ⟨rfl, rfl, rfl, rfl, rfl⟩ rfl rfl rfl rfl rfl (by kernel_rfl) Try.func13 (by kernel_rfl)
    (of_decide_eq_true (by kernel_rfl)) (by unfold Func.isWrapper; first | (rw [if_pos (by decide +kernel)]; kernel_rfl) | (rw [if_neg (by decide +kernel)]; exact ⟨rfl, rfl⟩))
    (fun os started H enc _ => DequeShared_lifted os started H enc)
#print axioms dequeShared_holds
end Go.Proofs.Ytjllfgocgehpeaa
