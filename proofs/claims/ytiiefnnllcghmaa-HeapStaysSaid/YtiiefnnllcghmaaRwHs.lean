/-
  The row besomlaw01.HeapStays: whatever words and acts are handed in: true, and they read as they did. No condition.
-/
import Derived.Test.YtiiefnnllcghmaaRwBase
import Derived.Test.YtiiefnnllcghmaaLaHs
set_option linter.unusedVariables false
namespace Go.Proofs.Ytiiefnnllcghmaa
open Go.Sep Go.ChangeShapes Go.WideShapes Go.ChangeAt Go.RowKit
set_option maxRecDepth 100000 in
theorem HeapStays_lifted (os : Os) (started : os.Started) (H : Type) (enc : TypeId × Value → H) :
    ReturnsInHanded {} Try.checked os 12 .any (Rows.heapStaysSpec.pre6 enc Try.prog Try.f12 Rows.heapStaysRow.domain false) (Rows.heapStaysSpec.post enc Try.prog Try.f12 false true false false) := by
  refine law_lifted (C := Try.checked) ownGodebug os started (by kernel_rfl) Try.func12 laidOut (by kernel_rfl) rfl Try.underlying4 rfl (fun ds h => ?_)
    (ChangeSpec.witness6 (enc := enc) (C := Try.checked) false ⟨#[], #[.slice none 0 0, .slice none 0 0], []⟩ 8 (by kernel_rfl) (by kernel_rfl) (by kernel_rfl) (by kernel_rfl)) ?_
  · match ds, h with
    | [d0, d1], _ => rfl
  intro W base args ds ps hval hA
  rw [Try.params12] at hA hval
  obtain ⟨v0, vs0, d0, ds0, p0, q0, hargs, rfl, rfl, h0, r0⟩ := trodAll_cons hA
  obtain ⟨v1, vs1, d1, ds1, p1, q1, rfl, rfl, rfl, h1, r1⟩ := trodAll_cons r0
  obtain ⟨rfl, rfl, rfl⟩ := trodAll_nil r1
  obtain rfl : args = #[v0, v1] := by cases args; simp_all
  obtain ⟨a, cap, zs, rfl, hR, hz, _, _⟩ := open_intSlice Try.underlying36 Try.underlying3 (by kernel_rfl) (hval 0 _ v0 rfl rfl) h0
  obtain ⟨a', cap', ys, rfl, hR', hy, _, _⟩ := open_leafSlice (ks := actH) 4 Try.underlying59 (by kernel_rfl) (by kernel_rfl) (by decide) (hval 1 _ v1 rfl rfl) h1
  exact Does.calls (HeapStays_spec zs hR (fun z h => bounds_i64 (hz z h)) ys hR' hy)
theorem heapStays_holds : Rows.HeapStaysSaid :=
  OpenClaim.holds_of_wide 12 Try.f12 rfl rfl rfl rfl rfl rfl rfl ⟨rfl, rfl, rfl, rfl, rfl⟩ rfl rfl rfl rfl rfl (by kernel_rfl) Try.func12 (by kernel_rfl)
    (of_decide_eq_true (by kernel_rfl)) (by unfold Func.isWrapper; first | (rw [if_pos (by decide +kernel)]; kernel_rfl) | (rw [if_neg (by decide +kernel)]; exact ⟨rfl, rfl⟩))
    (fun os started H enc _ => HeapStays_lifted os started H enc)
#print axioms heapStays_holds
end Go.Proofs.Ytiiefnnllcghmaa
