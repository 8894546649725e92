/-
  Our own: heaps: Walk, with the two functions that besomlaw01.HeapWalks hands it; HeapWalks.
-/
import Derived.Test.YtchanmljjfcplaaJq
import Derived.Test.YtchanmljjfcplaaLaHt
import Derived.Test.YtchanmljjfcplaaJm
set_option linter.unusedVariables false
set_option linter.unusedSimpArgs false
namespace Go.Proofs.Ytchanmljjfcplaa
open Go.Sep
/-- How many objects begin from place i on. -/
def objN (ws : List Int) (T : Nat) : Nat → Nat → Nat
  | 0, _ => 0
  | f + 1, i => if i < T then (match ws[i]? with
      | some w => 1 + objN ws T f (i + 1 + (unN w).toNat)
      | none => 0) else 0
theorem ofF_keep {ws : List Int} {T : Nat} : ∀ {f i : Nat} {st st' : List Bool}, ofF ws T f i st = some st' → ∀ j : Nat, st[j]? = some true → st'[j]? = some true
  | 0, i, st, st', h, j, hj => by simp [ofF] at h; rw [← h]; exact hj
  | f + 1, i, st, st', h, j, hj => by
    simp only [ofF] at h
    split at h
    · split at h
      · split at h
        · refine ofF_keep h j ?_
          rw [List.getElem?_set]
          split
          · rename_i e; subst e
            rw [if_pos (List.getElem?_eq_some_iff.1 hj).1]
          · exact hj
        · cases h
      · cases h
    · injection h with h; rw [← h]; exact hj
/-- What is told by a chain of objects that goes on at place i. -/
theorem ofF_step {ws : List Int} {T f i : Nat} {st st' : List Bool} (h : ofF ws T f i st = some st') (hf : T < i + f) (hi : i < T) (hl : st.length = ws.length) (hT : T ≤ ws.length) :
    ∃ w f', f = f' + 1 ∧ ws[i]? = some w ∧ wordB w = true ∧ i + 1 + (unN w).toNat ≤ T ∧ ofF ws T f' (i + 1 + (unN w).toNat) (st.set i true) = some st' ∧ st'[i]? = some true ∧ objN ws T f i = 1 + objN ws T f' (i + 1 + (unN w).toNat) := by
  cases f with
  | zero => omega
  | succ f =>
    simp only [ofF, if_pos hi] at h
    split at h
    · rename_i w hw
      split at h
      · rename_i hb
        refine ⟨w, f, rfl, hw, hb.1, hb.2, h, ofF_keep h i ?_, by simp only [objN, if_pos hi, hw]⟩
        rw [List.getElem?_set, if_pos rfl, if_pos (by omega)]
      · cases h
    · cases h
theorem objN_end {ws : List Int} {T f i : Nat} (h : T ≤ i) : objN ws T f i = 0 := by
  cases f with
  | zero => rfl
  | succ f => simp only [objN, if_neg (by omega : ¬ i < T)]
theorem objN_le {ws : List Int} {T : Nat} : ∀ {f i : Nat}, objN ws T f i ≤ f
  | 0, i => Nat.le_refl _
  | f + 1, i => by
    simp only [objN]
    split
    · split
      · have := objN_le (ws := ws) (T := T) (f := f) (i := i + 1 + (unN (by assumption)).toNat); omega
      · omega
    · omega
theorem eqHead_same (k n p : Int) : EqAgg Try.prog 46 #[.int .i64 k, .int .i64 n, .int .i64 p] #[.int .i64 k, .int .i64 n, .int .i64 p] true := by
  have h := eqHead k n p k n p
  rw [decide_eq_true ⟨rfl, rfl, rfl⟩] at h
  exact h
section ops
variable {p bw bs n bh ba bn bo bat bm bt : Nat} {ws : List Int} {st : List Bool} {T : Nat}
theorem Walk_spec : Does Try.prog 54 [ptr p 0] [] (fun v l => ∃ bh, v = .func (.func 77) #[] #[ptr bh 0] ∧ l = [blk bh [ptr p 0] 29]) := by
  refine Does.of tiok Try.func54 (by kernel_rfl) rfl Try.ntmps54 rfl ?_
  intro W fr
  repeat' (first | (refine IsO ?_; first | refine JO_nil ?_ | (refine IsG ?_; first | refine G1 rfl rfl ?_ | refine G2 rfl ?_) | (refine IsMove ?_; first | refine M1 rfl rfl rfl ?_ | refine M2 rfl rfl rfl ?_ | refine M3 rfl rfl rfl ?_ | refine M4 rfl rfl rfl ?_ | refine M5 rfl rfl rfl (fun _ => ?_) (fun _ => ?_) | refine M6 rfl rfl rfl (fun _ => ?_) (fun _ => ?_)) | (refine IsBin ?_; first | refine B1 rfl rfl rfl rfl ?_ | refine B2 rfl rfl rfl rfl ?_ | refine B3 rfl rfl rfl rfl ?_ | refine B4 rfl rfl rfl rfl ?_ | refine B5 rfl rfl rfl rfl ?_ | refine B6 rfl rfl rfl rfl ?_ | refine B7 rfl rfl rfl rfl rfl ?_ | refine B8 rfl rfl rfl rfl rfl ?_ | refine B9 rfl rfl rfl rfl rfl rfl rfl ?_ | refine BA rfl rfl rfl rfl rfl rfl rfl ?_) | (refine IsConv ?_; refine C1 rfl rfl rfl rfl rfl ?_) | (refine IsLoad ?_; first | refine L1 rfl rfl rfl rfl ?_ | refine L2 rfl rfl rfl rfl rfl ?_) | (refine IsStore ?_; refine S1 rfl rfl rfl rfl rfl rfl rfl (fun _ => ?_)) | (refine IsBox ?_; refine N1 rfl rfl rfl rfl (fun _ => ?_)) | (refine IsAlloc ?_; refine N2 rfl rfl rfl rfl (fun _ => ?_)) | (refine IsBuild ?_; refine U1 rfl rfl rfl rfl rfl rfl ?_) | refine V1 rfl rfl rfl ?_) | (refine IsAt ?_; first | (with_reducible first | refine T1 ?_ | refine T2 ?_ | refine T3 ?_ | refine T4 ?_ | refine T5 ?_ | refine T6 ?_ | refine T7 ?_ | refine T8 ?_ | refine T9 ?_ | refine TA ?_ | refine TB ?_ | refine TC ?_) | ((with_reducible show At _ (PBlock _ _ (Exit.exit _)) _ _); first | refine At_block_hit ?_ | refine At_block_miss rfl ?_)) | (refine IsJ ?_; first | refine J_seq ?_ | refine J_region ?_ | refine J_block ?_ | refine J_skip ?_ | refine J_ret ?_ | refine J_exit ?_ | (refine IsCond ?_; first | refine J_cond_t rfl ?_ | refine J_cond_f rfl ?_ | refine K1 rfl ?_ | refine K2 rfl ?_ | refine K3 rfl ?_ | refine K4 rfl ?_ | refine J_cb rfl (fun _ => ?_) (fun _ => ?_) | refine J_nb rfl (fun _ => ?_) (fun _ => ?_))))
  rename_i bh
  exact At_ret rfl rfl (.tmp rfl .nil) rfl (is := [0]) rfl ⟨bh, rfl, rfl⟩
theorem Head_good (i : Nat) (w : Int) (hw : In64 w) (hg : wordB w = true) (hst : st.length = n) (hl : ws.length = n) (ht : (T : Int) ≤ n) (hi : i < T) (hs : st[i]? = some true) (hwi : ws[i]? = some w) :
    Does Try.prog 43 [ptr p 0, .int .i64 i] (heapL p bw bs n ws T st) (fun v l => v = .tuple #[headV (unK w) (unN w) (unP w), .int .i64 0] ∧ l = heapL p bw bs n ws T st) := by
  have h := heapHead_ok (p := p) (bw := bw) (bs := bs) (n := n) (ws := ws) (top := (T : Int)) (st := st) i w hw hst hl ht (by omega) hs hwi
  rw [show unV w = headV (unK w) (unN w) (unP w) by unfold unV; rw [hg]; rfl, show (if wordB w = true then (0 : Int) else 2) = 0 by rw [hg]; rfl] at h
  exact h
end ops
end Go.Proofs.Ytchanmljjfcplaa
