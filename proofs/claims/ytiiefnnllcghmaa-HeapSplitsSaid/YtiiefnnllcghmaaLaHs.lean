/-
  Our own: the law function besomlaw01.HeapStays.
-/
import Derived.Test.YtiiefnnllcghmaaHu
set_option linter.unusedVariables false
set_option linter.unusedSimpArgs false
namespace Go.Proofs.Ytiiefnnllcghmaa
open Go.Sep
theorem ofF_inv {ws : List Int} {T : Nat} (hT : T = ws.length) : ∀ {f i : Nat} {st st' : List Bool}, ofF ws T f i st = some st' → T < i + f → i ≤ T → st.length = ws.length →
    (∀ j : Nat, st[j]? = some true → j < i ∧ ∃ w, ws[j]? = some w ∧ wordB w = true ∧ j + 1 + (unN w).toNat ≤ i ∧ ∀ q, j < q → q < j + 1 + (unN w).toNat → st[q]? ≠ some true) →
    (∀ j : Nat, st'[j]? = some true → ∃ w, ws[j]? = some w ∧ wordB w = true ∧ j + 1 + (unN w).toNat ≤ ws.length ∧ ∀ q, j < q → q < j + 1 + (unN w).toNat → st'[q]? ≠ some true)
  | 0, i, st, st', h, hf, hi, hl, hp => by omega
  | f + 1, i, st, st', h, hf, hi, hl, hp => by
    by_cases hlt : i < T
    · obtain ⟨w, f', hf', hw, hb, hle, ho, _, _⟩ := ofF_step h hf hlt hl (by omega)
      obtain rfl : f = f' := by omega
      refine ofF_inv hT ho (by omega) hle (by simp [hl]) fun j hj => ?_
      rcases set_trueB hj with rfl | hj'
      · refine ⟨by omega, w, hw, hb, by omega, fun q h1 h2 hq => ?_⟩
        rcases set_trueB hq with e | hq
        · omega
        · have := (hp q hq).1; omega
      · obtain ⟨h1, w', a1, a2, a3, a4⟩ := hp j hj'
        refine ⟨by omega, w', a1, a2, by omega, fun q h1 h2 hq => ?_⟩
        rcases set_trueB hq with e | hq
        · omega
        · exact a4 q h1 h2 hq
    · simp only [ofF, if_neg hlt] at h
      injection h with h
      subst h
      intro j hj
      obtain ⟨h1, w', a1, a2, a3, a4⟩ := hp j hj
      exact ⟨w', a1, a2, by omega, a4⟩
theorem of_inv {ws : List Int} {st : List Bool} (hz : ∀ w ∈ ws, In64 w) (hb : ws.length ≤ 65536) (h : ofF ws ws.length (ws.length + 1) 0 (List.replicate ws.length false) = some st) : HInv ws.length ws st := by
  refine ⟨rfl, by have := ofF_len h; rw [this]; simp, hb, hz, ofF_inv rfl h (by omega) (Nat.zero_le _) (by simp) fun j hj => ?_⟩
  rw [List.getElem?_replicate] at hj
  split at hj <;> cases hj
abbrev actH : List IntKind := [.u8, .i64, .i64, .i64, .i64, .i64, .i64]
theorem actH_of {ks : List Int} (h : ks.length = 7) : ∃ a b c d e f g, ks = [a, b, c, d, e, f, g] := by
  match ks, h with
  | [a, b, c, d, e, f, g], _ => exact ⟨a, b, c, d, e, f, g, rfl⟩
end Go.Proofs.Ytiiefnnllcghmaa
