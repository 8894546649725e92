/-
  The row besomlaw01.HeapPlays: whatever size and acts are handed in: true, and they read as they did. No condition.
-/
import Derived.Test.YtiiefnnllcghmaaRwBase
import Derived.Test.YtiiefnnllcghmaaLaHp
set_option linter.unusedVariables false
namespace Go.Proofs.Ytiiefnnllcghmaa
open Go.Sep Go.ChangeShapes Go.WideShapes Go.ChangeAt Go.RowKit
set_option maxRecDepth 100000 in
theorem HeapPlays_lifted (os : Os) (started : os.Started) (H : Type) (enc : TypeId × Value → H) :
    ReturnsInHanded {} Try.checked os 11 .any (Rows.heapPlaysSpec.pre6 enc Try.prog Try.f11 Rows.heapPlaysRow.domain false) (Rows.heapPlaysSpec.post enc Try.prog Try.f11 false true false false) := by
  refine law_lifted (C := Try.checked) ownGodebug os started (by kernel_rfl) Try.func11 laidOut (by kernel_rfl) rfl Try.underlying4 rfl (fun ds h => ?_)
    (ChangeSpec.witness6 (enc := enc) (C := Try.checked) false ⟨#[], #[.int .u8 0, .slice none 0 0], []⟩ 8 (by kernel_rfl) (by kernel_rfl) (by kernel_rfl) (by kernel_rfl)) ?_
  · match ds, h with
    | [d0, d1], _ => rfl
  intro W base args ds ps hval hA
  rw [Try.params11] at hA hval
  obtain ⟨v0, vs0, d0, ds0, p0, q0, hargs, rfl, rfl, h0, r0⟩ := trodAll_cons hA
  obtain ⟨v1, vs1, d1, ds1, p1, q1, rfl, rfl, rfl, h1, r1⟩ := trodAll_cons r0
  obtain ⟨rfl, rfl, rfl⟩ := trodAll_nil r1
  obtain rfl : args = #[v0, v1] := by cases args; simp_all
  obtain ⟨k0, rfl, rfl, rfl, w0⟩ := open_int Try.underlying5 (hval 0 _ v0 rfl rfl) h0
  obtain ⟨a', cap', ys, rfl, hR', hy, _, _⟩ := open_leafSlice (ks := actH) 4 Try.underlying59 (by kernel_rfl) (by kernel_rfl) (by decide) (hval 1 _ v1 rfl rfl) h1
  obtain ⟨g0, rfl⟩ := Int.eq_ofNat_of_zero_le (bounds_u8 w0).1
  have b0 := (bounds_u8 w0).2
  exact Does.calls (HeapPlays_spec g0 (by omega) ys hR' hy)
theorem heapPlays_holds : Rows.HeapPlaysSaid :=
  OpenClaim.holds_of_wide 11 Try.f11 rfl rfl rfl rfl rfl rfl rfl ⟨rfl, rfl, rfl, rfl, rfl⟩ rfl rfl rfl rfl rfl (by kernel_rfl) Try.func11 (by kernel_rfl)
    (of_decide_eq_true (by kernel_rfl)) (by unfold Func.isWrapper; first | (rw [if_pos (by decide +kernel)]; kernel_rfl) | (rw [if_neg (by decide +kernel)]; exact ⟨rfl, rfl⟩))
    (fun os started H enc _ => HeapPlays_lifted os started H enc)
#print axioms heapPlays_holds
end Go.Proofs.Ytiiefnnllcghmaa
