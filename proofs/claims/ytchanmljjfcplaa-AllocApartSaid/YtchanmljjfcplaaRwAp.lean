/-
  The row besomlaw05.AllocApart: whatever size, buffer and acts are handed in: true, and they read as they did. No condition.
-/
import Derived.Test.YtchanmljjfcplaaRwBase
import Derived.Test.YtchanmljjfcplaaRs
import Derived.Test.YtchanmljjfcplaaLaAp
set_option linter.unusedVariables false
namespace Go.Proofs.Ytchanmljjfcplaa
open Go.Sep Go.ChangeShapes Go.WideShapes Go.ChangeAt Go.RowKit
set_option maxRecDepth 100000 in
theorem AllocApart_lifted (os : Os) (started : os.Started) (H : Type) (enc : TypeId × Value → H) :
    ReturnsInHanded {} Try.checked os 13 .any (Rows.allocApartSpec.pre6 enc Try.prog Try.f13 Rows.allocApartRow.domain false) (Rows.allocApartSpec.post enc Try.prog Try.f13 false true false false) := by
  refine law_lifted (C := Try.checked) ownGodebug os started (by kernel_rfl) Try.func13 laidOut (by kernel_rfl) rfl Try.underlying4 rfl (fun ds h => ?_)
    (ChangeSpec.witness6 (enc := enc) (C := Try.checked) false ⟨#[], #[.int .u16 0, .int .u8 0, .slice none 0 0], []⟩ 8 (by kernel_rfl) (by kernel_rfl) (by kernel_rfl) (by kernel_rfl)) ?_
  · match ds, h with
    | [d0, d1, d2], _ => rfl
  intro W base args ds ps hval hA
  rw [Try.params13] at hA hval
  obtain ⟨v0, vs0, d0, ds0, p0, q0, hargs, rfl, rfl, h0, r0⟩ := trodAll_cons hA
  obtain ⟨v1, vs1, d1, ds1, p1, q1, rfl, rfl, rfl, h1, r1⟩ := trodAll_cons r0
  obtain ⟨v2, vs2, d2, ds2, p2, q2, rfl, rfl, rfl, h2, r2⟩ := trodAll_cons r1
  obtain ⟨rfl, rfl, rfl⟩ := trodAll_nil r2
  obtain rfl : args = #[v0, v1, v2] := by cases args; simp_all
  obtain ⟨k0, rfl, rfl, rfl, w0⟩ := open_int Try.underlying71 (hval 0 _ v0 rfl rfl) h0
  obtain ⟨k1, rfl, rfl, rfl, w1⟩ := open_int Try.underlying5 (hval 1 _ v1 rfl rfl) h1
  obtain ⟨a', cap', ys, rfl, hR', hy, _, _⟩ := open_leafSlice (ks := actA) 4 Try.underlying72 (by kernel_rfl) (by kernel_rfl) (by decide) (hval 2 _ v2 rfl rfl) h2
  have b0 := bounds_u16 w0
  have b1 := bounds_u8 w1
  obtain ⟨g0, rfl⟩ := Int.eq_ofNat_of_zero_le b0.1
  obtain ⟨m0, rfl⟩ := Int.eq_ofNat_of_zero_le b1.1
  exact Does.calls (AllocApart_spec g0 m0 (by omega) ys hR' hy (by omega))
theorem allocApart_holds : Rows.AllocApartSaid :=
  OpenClaim.holds_of_wide 13 Try.f13 rfl rfl rfl rfl rfl rfl rfl ⟨rfl, rfl, rfl, rfl, rfl⟩ rfl rfl rfl rfl rfl (by kernel_rfl) Try.func13 (by kernel_rfl)
    (of_decide_eq_true (by kernel_rfl)) (by unfold Func.isWrapper; first | (rw [if_pos (by decide +kernel)]; kernel_rfl) | (rw [if_neg (by decide +kernel)]; exact ⟨rfl, rfl⟩))
    (fun os started H enc _ => AllocApart_lifted os started H enc)
#print axioms allocApart_holds
end Go.Proofs.Ytchanmljjfcplaa
