/-
  The row besomlaw05.AllocPlays: whatever size, threads, buffer and acts are handed in: true, and they read as they did. No condition.
-/
import Derived.Test.YtchanmljjfcplaaRwBase
import Derived.Test.YtchanmljjfcplaaRs
import Derived.Test.YtchanmljjfcplaaLaAy
set_option linter.unusedVariables false
namespace Go.Proofs.Ytchanmljjfcplaa
open Go.Sep Go.ChangeShapes Go.WideShapes Go.ChangeAt Go.RowKit
theorem open_arr2 {P : Program} {H : Type} {enc : TypeId × Value → H} {W : World} {base b0 : Nat} {sp : Nat → Bool} {held : Bool} {r : Reach} {t e : TypeId} {v : Value} {d : DataW H} {p : List MemPlace}
    (ht : P.underlying t = some (.array 2 e)) (he : P.underlying e = some (.int .i64)) (hC : P.cellsOf t = 2) (hE : P.cellsOf e = 1)
    (hv : Value.okWide P W r b0 t v) (h : DataW.Trod enc P W base sp held t v d p) : ∃ a b, v = .agg #[.int .i64 a, .int .i64 b] ∧ In64 a ∧ In64 b := by
  simp only [Value.okWide, ht] at hv
  obtain ⟨cs, rfl, hs, _⟩ := hv
  obtain ⟨fuel, hf⟩ := h
  have hcs : (Value.cells (.agg cs)).toList = cs.toList := by simp [Value.cells]
  rw [hcs] at hf
  obtain ⟨xs, m, _, _, hl, hxl, hget⟩ := DataW.trod_array ht hf
  obtain ⟨c0, c1, hc⟩ : ∃ c0 c1, cs.toList = [c0, c1] := by
    have hl2 : cs.toList.length = 2 := by simpa using hs.trans hC
    match hm : cs.toList, hl2 with
    | [a, b], _ => exact ⟨a, b, rfl⟩
  have g0 := hget 0 (by decide)
  have g1 := hget 1 (by decide)
  rw [hc, hE, List.getElem?_eq_getElem (by omega)] at g0 g1
  obtain ⟨a, rfl, wa⟩ := trod_int he (n := m) (v := c0) g0
  obtain ⟨b, rfl, wb⟩ := trod_int he (n := m) (v := c1) g1
  refine ⟨a, b, ?_, bounds_i64 wa, bounds_i64 wb⟩
  congr 1
  apply Array.ext'
  exact hc
set_option maxRecDepth 100000 in
theorem AllocPlays_lifted (os : Os) (started : os.Started) (H : Type) (enc : TypeId × Value → H) :
    ReturnsInHanded {} Try.checked os 14 .any (Rows.allocPlaysSpec.pre6 enc Try.prog Try.f14 Rows.allocPlaysRow.domain false) (Rows.allocPlaysSpec.post enc Try.prog Try.f14 false true false false) := by
  refine law_lifted (C := Try.checked) ownGodebug os started (by kernel_rfl) Try.func14 laidOut (by kernel_rfl) rfl Try.underlying4 rfl (fun ds h => ?_)
    (ChangeSpec.witness6 (enc := enc) (C := Try.checked) false ⟨#[], #[.int .u16 0, .agg #[.int .i64 0, .int .i64 0], .slice none 0 0], []⟩ 8 (by kernel_rfl) (by kernel_rfl) (by kernel_rfl) (by kernel_rfl)) ?_
  · match ds, h with
    | [d0, d1, d2], _ => rfl
  intro W base args ds ps hval hA
  rw [Try.params14] at hA hval
  obtain ⟨v0, vs0, d0, ds0, p0, q0, hargs, rfl, rfl, h0, r0⟩ := trodAll_cons hA
  obtain ⟨v1, vs1, d1, ds1, p1, q1, rfl, rfl, rfl, h1, r1⟩ := trodAll_cons r0
  obtain ⟨v2, vs2, d2, ds2, p2, q2, rfl, rfl, rfl, h2, r2⟩ := trodAll_cons r1
  obtain ⟨rfl, rfl, rfl⟩ := trodAll_nil r2
  obtain rfl : args = #[v0, v1, v2] := by cases args; simp_all
  obtain ⟨k0, rfl, rfl, rfl, w0⟩ := open_int Try.underlying71 (hval 0 _ v0 rfl rfl) h0
  obtain ⟨y0, y1, rfl, wy0, wy1⟩ := open_arr2 Try.underlying84 Try.underlying3 (by kernel_rfl) (by kernel_rfl) (hval 1 _ v1 rfl rfl) h1
  obtain ⟨a', cap', ys, rfl, hR', hy, _, _⟩ := open_leafSlice (ks := actA) 4 Try.underlying72 (by kernel_rfl) (by kernel_rfl) (by decide) (hval 2 _ v2 rfl rfl) h2
  have b0 := bounds_u16 w0
  obtain ⟨g0, rfl⟩ := Int.eq_ofNat_of_zero_le b0.1
  exact Does.calls (AllocPlays_spec g0 y0 y1 wy0 wy1 ys hR' hy (by omega))
theorem allocPlays_holds : Rows.AllocPlaysSaid :=
  OpenClaim.holds_of_wide 14 Try.f14 rfl rfl rfl rfl rfl rfl rfl ⟨rfl, rfl, rfl, rfl, rfl⟩ rfl rfl rfl rfl rfl (by kernel_rfl) Try.func14 (by kernel_rfl)
    (of_decide_eq_true (by kernel_rfl)) (by unfold Func.isWrapper; first | (rw [if_pos (by decide +kernel)]; kernel_rfl) | (rw [if_neg (by decide +kernel)]; exact ⟨rfl, rfl⟩))
    (fun os started H enc _ => AllocPlays_lifted os started H enc)
#print axioms allocPlays_holds
end Go.Proofs.Ytchanmljjfcplaa
