/-
  The row besomlaw01.HeapOfs: whatever words and top are handed in: true, and they read as they did. No condition.
-/
import Derived.Test.YtiiefnnllcghmaaRwBase
import Derived.Test.YtiiefnnllcghmaaLaHo
set_option linter.unusedVariables false
namespace Go.Proofs.Ytiiefnnllcghmaa
open Go.Sep Go.ChangeShapes Go.WideShapes Go.ChangeAt Go.RowKit
set_option maxRecDepth 100000 in
theorem HeapOfs_lifted (os : Os) (started : os.Started) (H : Type) (enc : TypeId × Value → H) :
    ReturnsInHanded {} Try.checked os 9 .any (Rows.heapOfsSpec.pre6 enc Try.prog Try.f9 Rows.heapOfsRow.domain false) (Rows.heapOfsSpec.post enc Try.prog Try.f9 false true false false) := by
  refine law_lifted (C := Try.checked) ownGodebug os started (by kernel_rfl) Try.func9 laidOut (by kernel_rfl) rfl Try.underlying4 rfl (fun ds h => ?_)
    (ChangeSpec.witness6 (enc := enc) (C := Try.checked) false ⟨#[], #[.slice none 0 0, .int .i64 0], []⟩ 8 (by kernel_rfl) (by kernel_rfl) (by kernel_rfl) (by kernel_rfl)) ?_
  · match ds, h with
    | [d0, d1], _ => rfl
  intro W base args ds ps hval hA
  rw [Try.params9] at hA hval
  obtain ⟨v0, vs0, d0, ds0, p0, q0, hargs, rfl, rfl, h0, r0⟩ := trodAll_cons hA
  obtain ⟨v1, vs1, d1, ds1, p1, q1, rfl, rfl, rfl, h1, r1⟩ := trodAll_cons r0
  obtain ⟨rfl, rfl, rfl⟩ := trodAll_nil r1
  obtain rfl : args = #[v0, v1] := by cases args; simp_all
  obtain ⟨a, cap, zs, rfl, hR, hz, hcap, _⟩ := open_intSlice Try.underlying36 Try.underlying3 (by kernel_rfl) (hval 0 _ v0 rfl rfl) h0
  obtain ⟨k, rfl, rfl, rfl, w1⟩ := open_int Try.underlying3 (hval 1 _ v1 rfl rfl) h1
  exact Does.calls (HeapOfs_spec zs k hR (fun z h => bounds_i64 (hz z h)) hcap)
theorem heapOfs_holds : Rows.HeapOfsSaid :=
  OpenClaim.holds_of_wide 9 Try.f9 rfl rfl rfl rfl rfl rfl rfl ⟨rfl, rfl, rfl, rfl, rfl⟩ rfl rfl rfl rfl rfl (by kernel_rfl) Try.func9 (by kernel_rfl)
    (of_decide_eq_true (by kernel_rfl)) (by unfold Func.isWrapper; first | (rw [if_pos (by decide +kernel)]; kernel_rfl) | (rw [if_neg (by decide +kernel)]; exact ⟨rfl, rfl⟩))
    (fun os started H enc _ => HeapOfs_lifted os started H enc)
#print axioms heapOfs_holds
end Go.Proofs.Ytiiefnnllcghmaa
