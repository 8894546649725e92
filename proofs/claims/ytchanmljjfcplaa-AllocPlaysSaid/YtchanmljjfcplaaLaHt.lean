/-
  Our own: the law function besomlaw01.HeapTails.
-/
import Derived.Test.YtchanmljjfcplaaInt
import Derived.Test.YtchanmljjfcplaaLaHd
set_option linter.unusedVariables false
set_option linter.unusedSimpArgs false
namespace Go.Proofs.Ytchanmljjfcplaa
open Go.Sep
theorem zeroAt_in {ws : List Int} {i k j : Nat} (h : i + k ≤ ws.length) (h1 : i ≤ j) (h2 : j < i + k) : (zeroAt ws i k)[j]? = some 0 := by
  unfold zeroAt
  have e : (ws.take i).length = i := by simp; omega
  rw [List.append_assoc, List.getElem?_append_right (by omega), e, List.getElem?_append_left (by simp; omega), List.getElem?_replicate, if_pos (by omega)]
theorem zeroAt_out {ws : List Int} {i k j : Nat} (h : i + k ≤ ws.length) (h1 : j < i ∨ i + k ≤ j) : (zeroAt ws i k)[j]? = ws[j]? := by
  unfold zeroAt
  have e : (ws.take i).length = i := by simp; omega
  rcases h1 with h1 | h1
  · rw [List.append_assoc, List.getElem?_append_left (by omega), List.getElem?_take_of_lt h1]
  · rw [List.getElem?_append_right (by simp; omega), List.getElem?_drop]
    congr 1
    simp; omega
theorem ofF_len {ws : List Int} {T : Nat} : ∀ {f i : Nat} {st st' : List Bool}, ofF ws T f i st = some st' → st'.length = st.length
  | 0, i, st, st', h => by simp [ofF] at h; rw [h]
  | f + 1, i, st, st', h => by
    simp only [ofF] at h
    split at h
    · split at h
      · split at h
        · rw [ofF_len h]; simp
        · cases h
      · cases h
    · injection h with h; rw [h]
end Go.Proofs.Ytchanmljjfcplaa
