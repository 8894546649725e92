/-
  Our own: heaps: Split; what Of tells stays true; the law function besomlaw01.HeapStays.
-/
import Derived.Test.YtchanmljjfcplaaHs
import Derived.Test.YtchanmljjfcplaaRs
set_option linter.unusedVariables false
set_option linter.unusedSimpArgs false
namespace Go.Proofs.Ytchanmljjfcplaa
open Go.Sep
theorem zeroAt_mem {ws : List Int} {i k : Nat} {x : Int} (h : x ∈ zeroAt ws i k) : x ∈ ws ∨ x = 0 := by
  unfold zeroAt at h
  rcases List.mem_append.1 h with h | h
  · rcases List.mem_append.1 h with h | h
    · exact .inl (List.mem_of_mem_take h)
    · exact .inr (List.eq_of_mem_replicate h)
  · exact .inl (List.mem_of_mem_drop h)
theorem in64_zero : In64 0 := ⟨by decide, by decide⟩
theorem lay_at {ws : List Int} {i k : Nat} {v : Int} (h : i + 1 + k ≤ ws.length) : (zeroAt (ws.set i v) (i + 1) k)[i]? = some v := by
  rw [zeroAt_out (by simp; omega) (.inl (by omega)), List.getElem?_set, if_pos rfl, if_pos (by omega)]
theorem lay_out {ws : List Int} {i k j : Nat} {v : Int} (h : i + 1 + k ≤ ws.length) (hj : j < i ∨ i + 1 + k ≤ j) : (zeroAt (ws.set i v) (i + 1) k)[j]? = ws[j]? := by
  rw [zeroAt_out (by simp; omega) (by omega), List.getElem?_set_ne (by omega)]
theorem lay_mem {ws : List Int} {i k : Nat} {v x : Int} (h : x ∈ zeroAt (ws.set i v) (i + 1) k) : x ∈ ws ∨ x = v ∨ x = 0 := by
  rcases zeroAt_mem h with h | h
  · rcases List.mem_or_eq_of_mem_set h with h | h
    · exact .inl h
    · exact .inr (.inl h)
  · exact .inr (.inr h)
theorem set_trueB {st : List Bool} {i j : Nat} (h : (st.set i true)[j]? = some true) : j = i ∨ st[j]? = some true := by
  rw [List.getElem?_set] at h
  split at h
  · rename_i e; exact .inl e.symm
  · exact .inr h
end Go.Proofs.Ytchanmljjfcplaa
