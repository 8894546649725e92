/-
  The row besomlaw01.HeapTails: whatever words, top and head are handed in: true, and they read as they did. No condition.
-/
import Derived.Test.YtiiefnnllcghmaaRwBase
import Derived.Test.YtiiefnnllcghmaaLaHt
set_option linter.unusedVariables false
namespace Go.Proofs.Ytiiefnnllcghmaa
open Go.Sep Go.ChangeShapes Go.WideShapes Go.ChangeAt Go.RowKit
set_option maxRecDepth 100000 in
theorem HeapTails_lifted (os : Os) (started : os.Started) (H : Type) (enc : TypeId × Value → H) :
    ReturnsInHanded {} Try.checked os 7 .any (Rows.heapTailsSpec.pre6 enc Try.prog Try.f7 Rows.heapTailsRow.domain false) (Rows.heapTailsSpec.post enc Try.prog Try.f7 false true false false) := by
  refine law_lifted (C := Try.checked) ownGodebug os started (by kernel_rfl) Try.func7 laidOut (by kernel_rfl) rfl Try.underlying4 rfl (fun ds h => ?_)
    (ChangeSpec.witness6 (enc := enc) (C := Try.checked) false ⟨#[], #[.slice none 0 0, .int .u8 0, headV 0 0 0], []⟩ 8 (by kernel_rfl) (by kernel_rfl) (by kernel_rfl) (by kernel_rfl)) ?_
  · match ds, h with
    | [d0, d1, d2], _ => rfl
  intro W base args ds ps hval hA
  rw [Try.params7] at hA hval
  obtain ⟨v0, vs0, d0, ds0, p0, q0, hargs, rfl, rfl, h0, r0⟩ := trodAll_cons hA
  obtain ⟨v1, vs1, d1, ds1, p1, q1, rfl, rfl, rfl, h1, r1⟩ := trodAll_cons r0
  obtain ⟨v2, vs2, d2, ds2, p2, q2, rfl, rfl, rfl, h2, r2⟩ := trodAll_cons r1
  obtain ⟨rfl, rfl, rfl⟩ := trodAll_nil r2
  obtain rfl : args = #[v0, v1, v2] := by cases args; simp_all
  obtain ⟨a, cap, zs, rfl, hR, hz, _, _⟩ := open_intSlice Try.underlying36 Try.underlying3 (by kernel_rfl) (hval 0 _ v0 rfl rfl) h0
  obtain ⟨k, rfl, rfl, rfl, w1⟩ := open_int Try.underlying5 (hval 1 _ v1 rfl rfl) h1
  obtain ⟨kd, ln, pt, rfl, _, hln, _⟩ := open_head (hval 2 _ v2 rfl rfl) h2
  exact Does.calls (HeapTails_spec zs k kd ln pt (bounds_u8 w1).1 (bounds_u8 w1).2 hR (fun z h => bounds_i64 (hz z h)) hln)
theorem heapTails_holds : Rows.HeapTailsSaid :=
  OpenClaim.holds_of_wide 7 Try.f7 rfl rfl rfl rfl rfl rfl rfl ⟨rfl, rfl, rfl, rfl, rfl⟩ rfl rfl rfl rfl rfl (by kernel_rfl) Try.func7 (by kernel_rfl)
    (of_decide_eq_true (by kernel_rfl)) (by unfold Func.isWrapper; first | (rw [if_pos (by decide +kernel)]; kernel_rfl) | (rw [if_neg (by decide +kernel)]; exact ⟨rfl, rfl⟩))
    (fun os started H enc _ => HeapTails_lifted os started H enc)
#print axioms heapTails_holds
end Go.Proofs.Ytiiefnnllcghmaa
