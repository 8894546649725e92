/-
  The row besomlaw05.AllocLarge: whatever buffer and numbers are handed in: true, and they read as they did. No condition.
-/
import Derived.Test.YtchanmljjfcplaaRwBase
import Derived.Test.YtchanmljjfcplaaLaAl
set_option linter.unusedVariables false
namespace Go.Proofs.Ytchanmljjfcplaa
open Go.Sep Go.ChangeShapes Go.WideShapes Go.ChangeAt Go.RowKit
set_option maxRecDepth 100000 in
theorem AllocLarge_lifted (os : Os) (started : os.Started) (H : Type) (enc : TypeId × Value → H) :
    ReturnsInHanded {} Try.checked os 9 .any (Rows.allocLargeSpec.pre6 enc Try.prog Try.f9 Rows.allocLargeRow.domain false) (Rows.allocLargeSpec.post enc Try.prog Try.f9 false true false false) := by
  refine law_lifted (C := Try.checked) ownGodebug os started (by kernel_rfl) Try.func9 laidOut (by kernel_rfl) rfl Try.underlying4 rfl (fun ds h => ?_)
    (ChangeSpec.witness6 (enc := enc) (C := Try.checked) false ⟨#[], #[.int .u8 0, .slice none 0 0], []⟩ 8 (by kernel_rfl) (by kernel_rfl) (by kernel_rfl) (by kernel_rfl)) ?_
  · match ds, h with
    | [d0, d1], _ => rfl
  intro W base args ds ps hval hA
  rw [Try.params9] at hA hval
  obtain ⟨v0, vs0, d0, ds0, p0, q0, hargs, rfl, rfl, h0, r0⟩ := trodAll_cons hA
  obtain ⟨v1, vs1, d1, ds1, p1, q1, rfl, rfl, rfl, h1, r1⟩ := trodAll_cons r0
  obtain ⟨rfl, rfl, rfl⟩ := trodAll_nil r1
  obtain rfl : args = #[v0, v1] := by cases args; simp_all
  obtain ⟨k1, rfl, rfl, rfl, w1⟩ := open_int Try.underlying5 (hval 0 _ v0 rfl rfl) h0
  obtain ⟨a, cap, zs, rfl, hR, hz, _, _⟩ := open_intSlice Try.underlying23 Try.underlying5 (by kernel_rfl) (hval 1 _ v1 rfl rfl) h1
  have b1 := bounds_u8 w1
  obtain ⟨m0, rfl⟩ := Int.eq_ofNat_of_zero_le b1.1
  exact Does.calls (AllocLarge_spec m0 (by omega) zs hR (fun z h => bounds_u8 (hz z h)))
theorem allocLarge_holds : Rows.AllocLargeSaid :=
  OpenClaim.holds_of_wide 9 Try.f9 rfl rfl rfl rfl rfl rfl rfl ⟨rfl, rfl, rfl, rfl, rfl⟩ rfl rfl rfl rfl rfl (by kernel_rfl) Try.func9 (by kernel_rfl)
    (of_decide_eq_true (by kernel_rfl)) (by unfold Func.isWrapper; first | (rw [if_pos (by decide +kernel)]; kernel_rfl) | (rw [if_neg (by decide +kernel)]; exact ⟨rfl, rfl⟩))
    (fun os started H enc _ => AllocLarge_lifted os started H enc)
#print axioms allocLarge_holds
end Go.Proofs.Ytchanmljjfcplaa
