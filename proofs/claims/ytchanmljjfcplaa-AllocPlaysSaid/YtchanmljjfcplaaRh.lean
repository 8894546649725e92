/-
  Our own: the document's heads: besomref01.Good, Pack, Unpack; the law's awake; heads compared.
-/
import Derived.Test.YtchanmljjfcplaaJq
import Derived.Test.YtchanmljjfcplaaHd
set_option linter.unusedVariables false
set_option linter.unusedSimpArgs false
namespace Go.Proofs.Ytchanmljjfcplaa
open Go.Sep
set_option maxHeartbeats 4000000 in
theorem refGood_spec (k n p : Int) : Does Try.prog 48 [headV k n p] [] (fun v l => v = .bool (goodB k n p) ∧ l = []) := by
  refine Does.of tiok Try.func48 (by kernel_rfl) rfl Try.ntmps48 rfl ?_
  intro W fr
  repeat' (first | (refine IsO ?_; first | refine JO_nil ?_ | (refine IsG ?_; first | refine G1 rfl rfl ?_ | refine G2 rfl ?_) | (refine IsMove ?_; first | refine M1 rfl rfl rfl ?_ | refine M2 rfl rfl rfl ?_ | refine M3 rfl rfl rfl ?_ | refine M4 rfl rfl rfl ?_ | refine M5 rfl rfl rfl (fun _ => ?_) (fun _ => ?_) | refine M6 rfl rfl rfl (fun _ => ?_) (fun _ => ?_)) | (refine IsBin ?_; first | refine B1 rfl rfl rfl rfl ?_ | refine B2 rfl rfl rfl rfl ?_ | refine B3 rfl rfl rfl rfl ?_ | refine B4 rfl rfl rfl rfl ?_ | refine B5 rfl rfl rfl rfl ?_ | refine B6 rfl rfl rfl rfl ?_ | refine B7 rfl rfl rfl rfl rfl ?_ | refine B8 rfl rfl rfl rfl rfl ?_ | refine B9 rfl rfl rfl rfl rfl rfl rfl ?_ | refine BA rfl rfl rfl rfl rfl rfl rfl ?_) | (refine IsConv ?_; refine C1 rfl rfl rfl rfl rfl ?_) | (refine IsLoad ?_; first | refine L1 rfl rfl rfl rfl ?_ | refine L2 rfl rfl rfl rfl rfl ?_) | (refine IsStore ?_; refine S1 rfl rfl rfl rfl rfl rfl rfl (fun _ => ?_)) | (refine IsBox ?_; refine N1 rfl rfl rfl rfl (fun _ => ?_)) | (refine IsAlloc ?_; refine N2 rfl rfl rfl rfl (fun _ => ?_)) | (refine IsBuild ?_; refine U1 rfl rfl rfl rfl rfl rfl ?_) | refine V1 rfl rfl rfl ?_) | (refine IsAt ?_; first | (with_reducible first | refine T1 ?_ | refine T2 ?_ | refine T3 ?_ | refine T4 ?_ | refine T5 ?_ | refine T6 ?_ | refine T7 ?_ | refine T8 ?_ | refine T9 ?_ | refine TA ?_ | refine TB ?_ | refine TC ?_) | ((with_reducible show At _ (PBlock _ _ (Exit.exit _)) _ _); first | refine At_block_hit ?_ | refine At_block_miss rfl ?_)) | (refine IsJ ?_; first | refine J_seq ?_ | refine J_region ?_ | refine J_block ?_ | refine J_skip ?_ | refine J_ret ?_ | refine J_exit ?_ | (refine IsCond ?_; first | refine J_cond_t rfl ?_ | refine J_cond_f rfl ?_ | refine K1 rfl ?_ | refine K2 rfl ?_ | refine K3 rfl ?_ | refine K4 rfl ?_ | refine J_cb rfl (fun _ => ?_) (fun _ => ?_) | refine J_nb rfl (fun _ => ?_) (fun _ => ?_))))
  all_goals refine At_ret1 rfl rfl rfl (is := []) rfl ⟨?_, rfl⟩
  all_goals (refine congrArg Value.bool ?_; unfold goodB; first | exact (decide_eq_true (by omega)).symm | exact (decide_eq_false (by omega)).symm | exact decide_eq_decide.2 (by omega))

set_option maxHeartbeats 1000000 in
theorem refPack_spec (k n p : Int) (h : goodB k n p = true) : Does Try.prog 85 [headV k n p] [] (fun v l => v = .int .i64 (packI k n p) ∧ l = []) := by
  have hg' := of_decide_eq_true h
  refine Does.of tiok Try.func85 (by kernel_rfl) rfl Try.ntmps85 rfl ?_
  intro W fr
  repeat' (first | (refine IsO ?_; first | refine JO_nil ?_ | (refine IsG ?_; first | refine G1 rfl rfl ?_ | refine G2 rfl ?_) | (refine IsMove ?_; first | refine M1 rfl rfl rfl ?_ | refine M2 rfl rfl rfl ?_ | refine M3 rfl rfl rfl ?_ | refine M4 rfl rfl rfl ?_ | refine M5 rfl rfl rfl (fun _ => ?_) (fun _ => ?_) | refine M6 rfl rfl rfl (fun _ => ?_) (fun _ => ?_)) | (refine IsBin ?_; first | refine B1 rfl rfl rfl rfl ?_ | refine B2 rfl rfl rfl rfl ?_ | refine B3 rfl rfl rfl rfl ?_ | refine B4 rfl rfl rfl rfl ?_ | refine B5 rfl rfl rfl rfl ?_ | refine B6 rfl rfl rfl rfl ?_ | refine B7 rfl rfl rfl rfl rfl ?_ | refine B8 rfl rfl rfl rfl rfl ?_ | refine B9 rfl rfl rfl rfl rfl rfl rfl ?_ | refine BA rfl rfl rfl rfl rfl rfl rfl ?_) | (refine IsConv ?_; refine C1 rfl rfl rfl rfl rfl ?_) | (refine IsLoad ?_; first | refine L1 rfl rfl rfl rfl ?_ | refine L2 rfl rfl rfl rfl rfl ?_) | (refine IsStore ?_; refine S1 rfl rfl rfl rfl rfl rfl rfl (fun _ => ?_)) | (refine IsBox ?_; refine N1 rfl rfl rfl rfl (fun _ => ?_)) | (refine IsAlloc ?_; refine N2 rfl rfl rfl rfl (fun _ => ?_)) | (refine IsBuild ?_; refine U1 rfl rfl rfl rfl rfl rfl ?_) | refine V1 rfl rfl rfl ?_) | (refine IsAt ?_; first | (with_reducible first | refine T1 ?_ | refine T2 ?_ | refine T3 ?_ | refine T4 ?_ | refine T5 ?_ | refine T6 ?_ | refine T7 ?_ | refine T8 ?_ | refine T9 ?_ | refine TA ?_ | refine TB ?_ | refine TC ?_) | ((with_reducible show At _ (PBlock _ _ (Exit.exit _)) _ _); first | refine At_block_hit ?_ | refine At_block_miss rfl ?_)) | (refine IsJ ?_; first | refine J_seq ?_ | refine J_region ?_ | refine J_block ?_ | refine J_skip ?_ | refine J_ret ?_ | refine J_exit ?_ | (refine IsCond ?_; first | refine J_cond_t rfl ?_ | refine J_cond_f rfl ?_ | refine K1 rfl ?_ | refine K2 rfl ?_ | refine K3 rfl ?_ | refine K4 rfl ?_ | refine J_cb rfl (fun _ => ?_) (fun _ => ?_) | refine J_nb rfl (fun _ => ?_) (fun _ => ?_))))
  exact At_ret1 rfl rfl rfl (is := []) rfl ⟨congrArg (Value.int .i64) (by unfold packI; omega), rfl⟩

theorem wordB_big {w : Int} (h : 268435456 ≤ w) : wordB w = false := by
  unfold wordB goodB unN
  rw [Bool.and_eq_false_iff]; right
  exact decide_eq_false (by omega)
theorem unN_eq (w : Int) : w / 65536 = unN w := by unfold unN; omega
/-- Two heads compared. -/
theorem eqHead (k n p k' n' p' : Int) : EqAgg Try.prog 46 #[.int .i64 k, .int .i64 n, .int .i64 p] #[.int .i64 k', .int .i64 n', .int .i64 p'] (decide (k = k' ∧ n = n' ∧ p = p')) := by
  refine ⟨by kernel_rfl, fun w => ?_⟩
  have e : decide (k = k' ∧ n = n' ∧ p = p') = (k == k' && (n == n' && (p == p' && true))) := by
    rw [Bool.eq_iff_iff]; simp
  rw [e]
  refine equalIn_agg (d := 9999) Try.underlying46 (by kernel_rfl) ?_
  refine eqFields_cons (by rfl) (by go_simp; rfl) (by go_simp; rfl) (by go_simp) ?_
  refine eqFields_cons (by rfl) (by go_simp; rfl) (by go_simp; rfl) (by go_simp) ?_
  refine eqFields_cons (by rfl) (by go_simp; rfl) (by go_simp; rfl) (by go_simp) ?_
  exact eqFields_nil
end Go.Proofs.Ytchanmljjfcplaa
