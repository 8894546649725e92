/-
  Our own: the document's heads: besomref01.Good, Pack, Unpack; the law's awake; heads compared.
-/
import Derived.Test.YtiiefnnllcghmaaJq
import Derived.Test.YtiiefnnllcghmaaHd
set_option linter.unusedVariables false
set_option linter.unusedSimpArgs false
namespace Go.Proofs.Ytiiefnnllcghmaa
open Go.Sep
set_option maxHeartbeats 4000000 in
theorem refGood_spec (k n p : Int) : Does Try.prog 16 [headV k n p] [] (fun v l => v = .bool (goodB k n p) ∧ l = []) := by
  refine Does.of tiok Try.func16 (by kernel_rfl) rfl Try.ntmps16 rfl ?_
  intro W fr
  repeat' (first | (refine IsO ?_; first | refine JO_nil ?_ | (refine IsG ?_; first | refine G1 ?_ | refine G2 ?_) | (refine IsMove ?_; first | refine M1 rfl ?_ | refine M2 rfl ?_ | refine M3 rfl ?_ | refine M4 rfl ?_ | refine M5 rfl (fun _ => ?_) (fun _ => ?_) | refine M6 rfl (fun _ => ?_) (fun _ => ?_)) | (refine IsBin ?_; first | refine B1 rfl rfl ?_ | refine B2 rfl rfl ?_ | refine B3 rfl rfl ?_ | refine B4 rfl rfl ?_ | refine B5 rfl rfl ?_ | refine B6 rfl rfl ?_ | refine B7 rfl rfl ?_ | refine B8 rfl rfl ?_ | refine B9 rfl rfl ?_ | refine BA rfl rfl ?_) | (refine IsConv ?_; refine C1 rfl ?_) | (refine IsLoad ?_; first | refine L1 rfl ?_ | refine L2 rfl ?_) | (refine IsStore ?_; refine S1 rfl rfl (fun _ => ?_)) | (refine IsBox ?_; refine N1 rfl (fun _ => ?_)) | (refine IsAlloc ?_; refine N2 (fun _ => ?_)) | (refine IsBuild ?_; refine U1 ?_) | refine V1 ?_) | (refine IsAt ?_; first | (with_reducible first | refine T1 ?_ | refine T2 ?_ | refine T3 ?_ | refine T4 ?_ | refine T5 ?_ | refine T6 ?_ | refine T7 ?_ | refine T8 ?_ | refine T9 ?_ | refine TA ?_ | refine TB ?_ | refine TC ?_) | ((with_reducible show At _ (PBlock _ _ (Exit.exit _)) _ _); first | refine At_block_hit ?_ | refine At_block_miss rfl ?_)) | (refine IsJ ?_; first | refine J_seq ?_ | refine J_region ?_ | refine J_block ?_ | refine J_skip ?_ | refine J_ret ?_ | refine J_exit ?_ | (refine IsCond ?_; first | refine J_cond_t rfl ?_ | refine J_cond_f rfl ?_ | refine K1 rfl ?_ | refine K2 rfl ?_ | refine K3 rfl ?_ | refine K4 rfl ?_ | refine J_cb rfl (fun _ => ?_) (fun _ => ?_) | refine J_nb rfl (fun _ => ?_) (fun _ => ?_))))
  all_goals refine At_ret1 rfl rfl rfl (is := []) rfl ⟨?_, rfl⟩
  all_goals (refine congrArg Value.bool ?_; unfold goodB; first | exact (decide_eq_true (by omega)).symm | exact (decide_eq_false (by omega)).symm | exact decide_eq_decide.2 (by omega))

set_option maxHeartbeats 1000000 in
theorem refPack_spec (k n p : Int) (h : goodB k n p = true) : Does Try.prog 18 [headV k n p] [] (fun v l => v = .int .i64 (packI k n p) ∧ l = []) := by
  have hg' := of_decide_eq_true h
  refine Does.of tiok Try.func18 (by kernel_rfl) rfl Try.ntmps18 rfl ?_
  intro W fr
  repeat' (first | (refine IsO ?_; first | refine JO_nil ?_ | (refine IsG ?_; first | refine G1 ?_ | refine G2 ?_) | (refine IsMove ?_; first | refine M1 rfl ?_ | refine M2 rfl ?_ | refine M3 rfl ?_ | refine M4 rfl ?_ | refine M5 rfl (fun _ => ?_) (fun _ => ?_) | refine M6 rfl (fun _ => ?_) (fun _ => ?_)) | (refine IsBin ?_; first | refine B1 rfl rfl ?_ | refine B2 rfl rfl ?_ | refine B3 rfl rfl ?_ | refine B4 rfl rfl ?_ | refine B5 rfl rfl ?_ | refine B6 rfl rfl ?_ | refine B7 rfl rfl ?_ | refine B8 rfl rfl ?_ | refine B9 rfl rfl ?_ | refine BA rfl rfl ?_) | (refine IsConv ?_; refine C1 rfl ?_) | (refine IsLoad ?_; first | refine L1 rfl ?_ | refine L2 rfl ?_) | (refine IsStore ?_; refine S1 rfl rfl (fun _ => ?_)) | (refine IsBox ?_; refine N1 rfl (fun _ => ?_)) | (refine IsAlloc ?_; refine N2 (fun _ => ?_)) | (refine IsBuild ?_; refine U1 ?_) | refine V1 ?_) | (refine IsAt ?_; first | (with_reducible first | refine T1 ?_ | refine T2 ?_ | refine T3 ?_ | refine T4 ?_ | refine T5 ?_ | refine T6 ?_ | refine T7 ?_ | refine T8 ?_ | refine T9 ?_ | refine TA ?_ | refine TB ?_ | refine TC ?_) | ((with_reducible show At _ (PBlock _ _ (Exit.exit _)) _ _); first | refine At_block_hit ?_ | refine At_block_miss rfl ?_)) | (refine IsJ ?_; first | refine J_seq ?_ | refine J_region ?_ | refine J_block ?_ | refine J_skip ?_ | refine J_ret ?_ | refine J_exit ?_ | (refine IsCond ?_; first | refine J_cond_t rfl ?_ | refine J_cond_f rfl ?_ | refine K1 rfl ?_ | refine K2 rfl ?_ | refine K3 rfl ?_ | refine K4 rfl ?_ | refine J_cb rfl (fun _ => ?_) (fun _ => ?_) | refine J_nb rfl (fun _ => ?_) (fun _ => ?_))))
  exact At_ret1 rfl rfl rfl (is := []) rfl ⟨congrArg (Value.int .i64) (by unfold packI; omega), rfl⟩

theorem wordB_big {w : Int} (h : 268435456 ≤ w) : wordB w = false := by
  unfold wordB goodB unN
  rw [Bool.and_eq_false_iff]; right
  exact decide_eq_false (by omega)
theorem unN_eq (w : Int) : w / 65536 = unN w := by unfold unN; omega
set_option maxHeartbeats 1000000 in
theorem refUnpack_spec (w : Int) (hw : In64 w) : Does Try.prog 19 [.int .i64 w] [] (fun v l => v = .tuple #[unV w, .bool (wordB w)] ∧ l = []) := by
  obtain ⟨h1, h2⟩ := hw
  refine Does.of tiok Try.func19 (by kernel_rfl) rfl Try.ntmps19 rfl ?_
  intro W fr
  repeat' (first | (refine IsO ?_; first | refine JO_nil ?_ | (refine IsG ?_; first | refine G1 ?_ | refine G2 ?_) | (refine IsMove ?_; first | refine M1 rfl ?_ | refine M2 rfl ?_ | refine M3 rfl ?_ | refine M4 rfl ?_ | refine M5 rfl (fun _ => ?_) (fun _ => ?_) | refine M6 rfl (fun _ => ?_) (fun _ => ?_)) | (refine IsBin ?_; first | refine B1 rfl rfl ?_ | refine B2 rfl rfl ?_ | refine B3 rfl rfl ?_ | refine B4 rfl rfl ?_ | refine B5 rfl rfl ?_ | refine B6 rfl rfl ?_ | refine B7 rfl rfl ?_ | refine B8 rfl rfl ?_ | refine B9 rfl rfl ?_ | refine BA rfl rfl ?_) | (refine IsConv ?_; refine C1 rfl ?_) | (refine IsLoad ?_; first | refine L1 rfl ?_ | refine L2 rfl ?_) | (refine IsStore ?_; refine S1 rfl rfl (fun _ => ?_)) | (refine IsBox ?_; refine N1 rfl (fun _ => ?_)) | (refine IsAlloc ?_; refine N2 (fun _ => ?_)) | (refine IsBuild ?_; refine U1 ?_) | refine V1 ?_) | (refine IsAt ?_; first | (with_reducible first | refine T1 ?_ | refine T2 ?_ | refine T3 ?_ | refine T4 ?_ | refine T5 ?_ | refine T6 ?_ | refine T7 ?_ | refine T8 ?_ | refine T9 ?_ | refine TA ?_ | refine TB ?_ | refine TC ?_) | ((with_reducible show At _ (PBlock _ _ (Exit.exit _)) _ _); first | refine At_block_hit ?_ | refine At_block_miss rfl ?_)) | (refine IsJ ?_; first | refine J_seq ?_ | refine J_region ?_ | refine J_block ?_ | refine J_skip ?_ | refine J_ret ?_ | refine J_exit ?_ | (refine IsCond ?_; first | refine J_cond_t rfl ?_ | refine J_cond_f rfl ?_ | refine K1 rfl ?_ | refine K2 rfl ?_ | refine K3 rfl ?_ | refine K4 rfl ?_ | refine J_cb rfl (fun _ => ?_) (fun _ => ?_) | refine J_nb rfl (fun _ => ?_) (fun _ => ?_))))
  · have e : wordB w = false := by unfold wordB; rw [decide_eq_false (by omega)]; rfl
    exact At_ret rfl rfl (.agg rfl rfl rfl (by repeat (first | exact .head _ | refine .tail _ ?_)) rfl (.tmp rfl .nil)) rfl (is := []) rfl ⟨by unfold unV; rw [e]; rfl, rfl⟩
  · rename_i h3 h4
    have e : wordB w = false := wordB_big (by omega)
    exact At_ret rfl rfl (.agg rfl rfl rfl (by repeat (first | exact .head _ | refine .tail _ ?_)) rfl (.tmp rfl .nil)) rfl (is := []) rfl ⟨by unfold unV; rw [e]; rfl, rfl⟩
  · refine JO_l (OL_call [] rfl rfl rfl (refGood_spec _ _ _) rfl) rfl rfl ?_; rintro _ _ ⟨_, ⟨rfl, rfl⟩, rfl⟩
    have h0 : 0 ≤ w := by omega
    rw [unN_eq]
    have e : wordB w = goodB (w % 16) (unN w) (w / 16 % 4096) := by unfold wordB; rw [decide_eq_true h0]; rfl
    cases hg : goodB (w % 16) (unN w) (w / 16 % 4096)
    · rw [hg] at e
      repeat' (first | (refine IsO ?_; first | refine JO_nil ?_ | (refine IsG ?_; first | refine G1 ?_ | refine G2 ?_) | (refine IsMove ?_; first | refine M1 rfl ?_ | refine M2 rfl ?_ | refine M3 rfl ?_ | refine M4 rfl ?_ | refine M5 rfl (fun _ => ?_) (fun _ => ?_) | refine M6 rfl (fun _ => ?_) (fun _ => ?_)) | (refine IsBin ?_; first | refine B1 rfl rfl ?_ | refine B2 rfl rfl ?_ | refine B3 rfl rfl ?_ | refine B4 rfl rfl ?_ | refine B5 rfl rfl ?_ | refine B6 rfl rfl ?_ | refine B7 rfl rfl ?_ | refine B8 rfl rfl ?_ | refine B9 rfl rfl ?_ | refine BA rfl rfl ?_) | (refine IsConv ?_; refine C1 rfl ?_) | (refine IsLoad ?_; first | refine L1 rfl ?_ | refine L2 rfl ?_) | (refine IsStore ?_; refine S1 rfl rfl (fun _ => ?_)) | (refine IsBox ?_; refine N1 rfl (fun _ => ?_)) | (refine IsAlloc ?_; refine N2 (fun _ => ?_)) | (refine IsBuild ?_; refine U1 ?_) | refine V1 ?_) | (refine IsAt ?_; first | (with_reducible first | refine T1 ?_ | refine T2 ?_ | refine T3 ?_ | refine T4 ?_ | refine T5 ?_ | refine T6 ?_ | refine T7 ?_ | refine T8 ?_ | refine T9 ?_ | refine TA ?_ | refine TB ?_ | refine TC ?_) | ((with_reducible show At _ (PBlock _ _ (Exit.exit _)) _ _); first | refine At_block_hit ?_ | refine At_block_miss rfl ?_)) | (refine IsJ ?_; first | refine J_seq ?_ | refine J_region ?_ | refine J_block ?_ | refine J_skip ?_ | refine J_ret ?_ | refine J_exit ?_ | (refine IsCond ?_; first | refine J_cond_t rfl ?_ | refine J_cond_f rfl ?_ | refine K1 rfl ?_ | refine K2 rfl ?_ | refine K3 rfl ?_ | refine K4 rfl ?_ | refine J_cb rfl (fun _ => ?_) (fun _ => ?_) | refine J_nb rfl (fun _ => ?_) (fun _ => ?_))))
      exact At_ret rfl rfl (.agg rfl rfl rfl (by repeat (first | exact .head _ | refine .tail _ ?_)) rfl (.tmp rfl .nil)) rfl (is := []) rfl ⟨by unfold unV; rw [e]; rfl, rfl⟩
    · rw [hg] at e
      repeat' (first | (refine IsO ?_; first | refine JO_nil ?_ | (refine IsG ?_; first | refine G1 ?_ | refine G2 ?_) | (refine IsMove ?_; first | refine M1 rfl ?_ | refine M2 rfl ?_ | refine M3 rfl ?_ | refine M4 rfl ?_ | refine M5 rfl (fun _ => ?_) (fun _ => ?_) | refine M6 rfl (fun _ => ?_) (fun _ => ?_)) | (refine IsBin ?_; first | refine B1 rfl rfl ?_ | refine B2 rfl rfl ?_ | refine B3 rfl rfl ?_ | refine B4 rfl rfl ?_ | refine B5 rfl rfl ?_ | refine B6 rfl rfl ?_ | refine B7 rfl rfl ?_ | refine B8 rfl rfl ?_ | refine B9 rfl rfl ?_ | refine BA rfl rfl ?_) | (refine IsConv ?_; refine C1 rfl ?_) | (refine IsLoad ?_; first | refine L1 rfl ?_ | refine L2 rfl ?_) | (refine IsStore ?_; refine S1 rfl rfl (fun _ => ?_)) | (refine IsBox ?_; refine N1 rfl (fun _ => ?_)) | (refine IsAlloc ?_; refine N2 (fun _ => ?_)) | (refine IsBuild ?_; refine U1 ?_) | refine V1 ?_) | (refine IsAt ?_; first | (with_reducible first | refine T1 ?_ | refine T2 ?_ | refine T3 ?_ | refine T4 ?_ | refine T5 ?_ | refine T6 ?_ | refine T7 ?_ | refine T8 ?_ | refine T9 ?_ | refine TA ?_ | refine TB ?_ | refine TC ?_) | ((with_reducible show At _ (PBlock _ _ (Exit.exit _)) _ _); first | refine At_block_hit ?_ | refine At_block_miss rfl ?_)) | (refine IsJ ?_; first | refine J_seq ?_ | refine J_region ?_ | refine J_block ?_ | refine J_skip ?_ | refine J_ret ?_ | refine J_exit ?_ | (refine IsCond ?_; first | refine J_cond_t rfl ?_ | refine J_cond_f rfl ?_ | refine K1 rfl ?_ | refine K2 rfl ?_ | refine K3 rfl ?_ | refine K4 rfl ?_ | refine J_cb rfl (fun _ => ?_) (fun _ => ?_) | refine J_nb rfl (fun _ => ?_) (fun _ => ?_))))
      exact At_ret rfl rfl (.agg rfl rfl rfl (by repeat (first | exact .head _ | refine .tail _ ?_)) rfl (.tmp rfl .nil)) rfl (is := []) rfl ⟨by unfold unV; rw [e]; rfl, rfl⟩

/-- Two heads compared. -/
theorem eqHead (k n p k' n' p' : Int) : EqAgg Try.prog 23 #[.int .i64 k, .int .i64 n, .int .i64 p] #[.int .i64 k', .int .i64 n', .int .i64 p'] (decide (k = k' ∧ n = n' ∧ p = p')) := by
  refine ⟨by kernel_rfl, fun w => ?_⟩
  have e : decide (k = k' ∧ n = n' ∧ p = p') = (k == k' && (n == n' && (p == p' && true))) := by
    rw [Bool.eq_iff_iff]; simp
  rw [e]
  refine equalIn_agg (d := 9999) Try.underlying23 (by kernel_rfl) ?_
  refine eqFields_cons (by rfl) (by go_simp; rfl) (by go_simp; rfl) (by go_simp) ?_
  refine eqFields_cons (by rfl) (by go_simp; rfl) (by go_simp; rfl) (by go_simp) ?_
  refine eqFields_cons (by rfl) (by go_simp; rfl) (by go_simp; rfl) (by go_simp) ?_
  exact eqFields_nil
end Go.Proofs.Ytiiefnnllcghmaa
