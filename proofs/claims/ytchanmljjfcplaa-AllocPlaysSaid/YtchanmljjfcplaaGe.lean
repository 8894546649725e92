/-
  Our own: the document's heaps (besomref01): Place.
-/
import Derived.Test.YtchanmljjfcplaaJq
import Derived.Test.YtchanmljjfcplaaGd
set_option linter.unusedVariables false
set_option linter.unusedSimpArgs false
namespace Go.Proofs.Ytchanmljjfcplaa
open Go.Sep
theorem rowO_new {bw k i : Nat} {kd pt : Int} {l : List HP} {H : PH} (h : Stars (blk bw (List.replicate k (.int .i64 0)) 3 :: l) H) : Stars (rowO ⟨i, kd, pt, List.replicate k 0, some ⟨bw, 0, none⟩, k⟩ :: l) H := by
  have h2 := rowz_row (row_full (n := k) (sz := 1) h (by simp))
  have e : List.replicate k (Value.int .i64 0) = intsV (List.replicate k 0) := by simp [intsV]
  rw [e] at h2
  show Stars (rowz 3 1 (some ⟨bw, 0, none⟩) (List.replicate k (0 : Int)).length k (intsV (List.replicate k 0)) :: l) H
  rw [List.length_replicate]
  exact h2
section ops
variable {a : Option Addr} {cap : Nat} {os : List RO} {n T : Nat} {ws : List Int}
theorem refPlace_bad (kd ln pt : Int) (hg : goodB kd ln pt = false) : Does Try.prog 49 [refV n a os.length cap, headV kd ln pt] (refL a cap os)
    (fun v l => v = .tuple #[refV n a os.length cap, .int .i64 0, .int .i64 1] ∧ l = refL a cap os) := by
  refine Does.of tiok Try.func49 (by kernel_rfl) rfl Try.ntmps49 rfl ?_
  intro W fr
  repeat' (first | (refine IsO ?_; first | refine JO_nil ?_ | (refine IsG ?_; first | refine G1 rfl rfl ?_ | refine G2 rfl ?_) | (refine IsMove ?_; first | refine M1 rfl rfl rfl ?_ | refine M2 rfl rfl rfl ?_ | refine M3 rfl rfl rfl ?_ | refine M4 rfl rfl rfl ?_ | refine M5 rfl rfl rfl (fun _ => ?_) (fun _ => ?_) | refine M6 rfl rfl rfl (fun _ => ?_) (fun _ => ?_)) | (refine IsBin ?_; first | refine B1 rfl rfl rfl rfl ?_ | refine B2 rfl rfl rfl rfl ?_ | refine B3 rfl rfl rfl rfl ?_ | refine B4 rfl rfl rfl rfl ?_ | refine B5 rfl rfl rfl rfl ?_ | refine B6 rfl rfl rfl rfl ?_ | refine B7 rfl rfl rfl rfl rfl ?_ | refine B8 rfl rfl rfl rfl rfl ?_ | refine B9 rfl rfl rfl rfl rfl rfl rfl ?_ | refine BA rfl rfl rfl rfl rfl rfl rfl ?_) | (refine IsConv ?_; refine C1 rfl rfl rfl rfl rfl ?_) | (refine IsLoad ?_; first | refine L1 rfl rfl rfl rfl ?_ | refine L2 rfl rfl rfl rfl rfl ?_) | (refine IsStore ?_; refine S1 rfl rfl rfl rfl rfl rfl rfl (fun _ => ?_)) | (refine IsBox ?_; refine N1 rfl rfl rfl rfl (fun _ => ?_)) | (refine IsAlloc ?_; refine N2 rfl rfl rfl rfl (fun _ => ?_)) | (refine IsBuild ?_; refine U1 rfl rfl rfl rfl rfl rfl ?_) | refine V1 rfl rfl rfl ?_) | (refine IsAt ?_; first | (with_reducible first | refine T1 ?_ | refine T2 ?_ | refine T3 ?_ | refine T4 ?_ | refine T5 ?_ | refine T6 ?_ | refine T7 ?_ | refine T8 ?_ | refine T9 ?_ | refine TA ?_ | refine TB ?_ | refine TC ?_) | ((with_reducible show At _ (PBlock _ _ (Exit.exit _)) _ _); first | refine At_block_hit ?_ | refine At_block_miss rfl ?_)) | (refine IsJ ?_; first | refine J_seq ?_ | refine J_region ?_ | refine J_block ?_ | refine J_skip ?_ | refine J_ret ?_ | refine J_exit ?_ | (refine IsCond ?_; first | refine J_cond_t rfl ?_ | refine J_cond_f rfl ?_ | refine K1 rfl ?_ | refine K2 rfl ?_ | refine K3 rfl ?_ | refine K4 rfl ?_ | refine J_cb rfl (fun _ => ?_) (fun _ => ?_) | refine J_nb rfl (fun _ => ?_) (fun _ => ?_))))
  refine JO_l (OL_call [] rfl rfl rfl (refGood_spec kd ln pt) rfl) rfl rfl ?_; rintro _ _ ⟨_, ⟨rfl, rfl⟩, rfl⟩
  rw [hg]
  repeat' (first | (refine IsO ?_; first | refine JO_nil ?_ | (refine IsG ?_; first | refine G1 rfl rfl ?_ | refine G2 rfl ?_) | (refine IsMove ?_; first | refine M1 rfl rfl rfl ?_ | refine M2 rfl rfl rfl ?_ | refine M3 rfl rfl rfl ?_ | refine M4 rfl rfl rfl ?_ | refine M5 rfl rfl rfl (fun _ => ?_) (fun _ => ?_) | refine M6 rfl rfl rfl (fun _ => ?_) (fun _ => ?_)) | (refine IsBin ?_; first | refine B1 rfl rfl rfl rfl ?_ | refine B2 rfl rfl rfl rfl ?_ | refine B3 rfl rfl rfl rfl ?_ | refine B4 rfl rfl rfl rfl ?_ | refine B5 rfl rfl rfl rfl ?_ | refine B6 rfl rfl rfl rfl ?_ | refine B7 rfl rfl rfl rfl rfl ?_ | refine B8 rfl rfl rfl rfl rfl ?_ | refine B9 rfl rfl rfl rfl rfl rfl rfl ?_ | refine BA rfl rfl rfl rfl rfl rfl rfl ?_) | (refine IsConv ?_; refine C1 rfl rfl rfl rfl rfl ?_) | (refine IsLoad ?_; first | refine L1 rfl rfl rfl rfl ?_ | refine L2 rfl rfl rfl rfl rfl ?_) | (refine IsStore ?_; refine S1 rfl rfl rfl rfl rfl rfl rfl (fun _ => ?_)) | (refine IsBox ?_; refine N1 rfl rfl rfl rfl (fun _ => ?_)) | (refine IsAlloc ?_; refine N2 rfl rfl rfl rfl (fun _ => ?_)) | (refine IsBuild ?_; refine U1 rfl rfl rfl rfl rfl rfl ?_) | refine V1 rfl rfl rfl ?_) | (refine IsAt ?_; first | (with_reducible first | refine T1 ?_ | refine T2 ?_ | refine T3 ?_ | refine T4 ?_ | refine T5 ?_ | refine T6 ?_ | refine T7 ?_ | refine T8 ?_ | refine T9 ?_ | refine TA ?_ | refine TB ?_ | refine TC ?_) | ((with_reducible show At _ (PBlock _ _ (Exit.exit _)) _ _); first | refine At_block_hit ?_ | refine At_block_miss rfl ?_)) | (refine IsJ ?_; first | refine J_seq ?_ | refine J_region ?_ | refine J_block ?_ | refine J_skip ?_ | refine J_ret ?_ | refine J_exit ?_ | (refine IsCond ?_; first | refine J_cond_t rfl ?_ | refine J_cond_f rfl ?_ | refine K1 rfl ?_ | refine K2 rfl ?_ | refine K3 rfl ?_ | refine K4 rfl ?_ | refine J_cb rfl (fun _ => ?_) (fun _ => ?_) | refine J_nb rfl (fun _ => ?_) (fun _ => ?_))))
  exact At_ret rfl rfl (.agg rfl rfl rfl (by repeat (first | exact .head _ | refine .tail _ ?_)) rfl (.tmp rfl (.tmp rfl .nil))) rfl (is := [3, 3]) rfl ⟨rfl, rfl⟩
theorem refPlace_full (kd pt : Int) (k : Nat) (hc : Ch ws 0 os T) (hT : T ≤ n) (hn : n ≤ 65536) (hg : goodB kd k pt = true) (hf : (n : Int) - T ≤ k) : Does Try.prog 49 [refV n a os.length cap, headV kd k pt] (refL a cap os)
    (fun v l => v = .tuple #[refV n a os.length cap, .int .i64 0, .int .i64 6] ∧ l = refL a cap os) := by
  have hgb := of_decide_eq_true hg
  refine Does.of tiok Try.func49 (by kernel_rfl) rfl Try.ntmps49 rfl ?_
  intro W fr
  repeat' (first | (refine IsO ?_; first | refine JO_nil ?_ | (refine IsG ?_; first | refine G1 rfl rfl ?_ | refine G2 rfl ?_) | (refine IsMove ?_; first | refine M1 rfl rfl rfl ?_ | refine M2 rfl rfl rfl ?_ | refine M3 rfl rfl rfl ?_ | refine M4 rfl rfl rfl ?_ | refine M5 rfl rfl rfl (fun _ => ?_) (fun _ => ?_) | refine M6 rfl rfl rfl (fun _ => ?_) (fun _ => ?_)) | (refine IsBin ?_; first | refine B1 rfl rfl rfl rfl ?_ | refine B2 rfl rfl rfl rfl ?_ | refine B3 rfl rfl rfl rfl ?_ | refine B4 rfl rfl rfl rfl ?_ | refine B5 rfl rfl rfl rfl ?_ | refine B6 rfl rfl rfl rfl ?_ | refine B7 rfl rfl rfl rfl rfl ?_ | refine B8 rfl rfl rfl rfl rfl ?_ | refine B9 rfl rfl rfl rfl rfl rfl rfl ?_ | refine BA rfl rfl rfl rfl rfl rfl rfl ?_) | (refine IsConv ?_; refine C1 rfl rfl rfl rfl rfl ?_) | (refine IsLoad ?_; first | refine L1 rfl rfl rfl rfl ?_ | refine L2 rfl rfl rfl rfl rfl ?_) | (refine IsStore ?_; refine S1 rfl rfl rfl rfl rfl rfl rfl (fun _ => ?_)) | (refine IsBox ?_; refine N1 rfl rfl rfl rfl (fun _ => ?_)) | (refine IsAlloc ?_; refine N2 rfl rfl rfl rfl (fun _ => ?_)) | (refine IsBuild ?_; refine U1 rfl rfl rfl rfl rfl rfl ?_) | refine V1 rfl rfl rfl ?_) | (refine IsAt ?_; first | (with_reducible first | refine T1 ?_ | refine T2 ?_ | refine T3 ?_ | refine T4 ?_ | refine T5 ?_ | refine T6 ?_ | refine T7 ?_ | refine T8 ?_ | refine T9 ?_ | refine TA ?_ | refine TB ?_ | refine TC ?_) | ((with_reducible show At _ (PBlock _ _ (Exit.exit _)) _ _); first | refine At_block_hit ?_ | refine At_block_miss rfl ?_)) | (refine IsJ ?_; first | refine J_seq ?_ | refine J_region ?_ | refine J_block ?_ | refine J_skip ?_ | refine J_ret ?_ | refine J_exit ?_ | (refine IsCond ?_; first | refine J_cond_t rfl ?_ | refine J_cond_f rfl ?_ | refine K1 rfl ?_ | refine K2 rfl ?_ | refine K3 rfl ?_ | refine K4 rfl ?_ | refine J_cb rfl (fun _ => ?_) (fun _ => ?_) | refine J_nb rfl (fun _ => ?_) (fun _ => ?_))))
  refine JO_l (OL_call [] rfl rfl rfl (refGood_spec kd k pt) rfl) rfl rfl ?_; rintro _ _ ⟨_, ⟨rfl, rfl⟩, rfl⟩
  rw [hg]
  repeat' (first | (refine IsO ?_; first | refine JO_nil ?_ | (refine IsG ?_; first | refine G1 rfl rfl ?_ | refine G2 rfl ?_) | (refine IsMove ?_; first | refine M1 rfl rfl rfl ?_ | refine M2 rfl rfl rfl ?_ | refine M3 rfl rfl rfl ?_ | refine M4 rfl rfl rfl ?_ | refine M5 rfl rfl rfl (fun _ => ?_) (fun _ => ?_) | refine M6 rfl rfl rfl (fun _ => ?_) (fun _ => ?_)) | (refine IsBin ?_; first | refine B1 rfl rfl rfl rfl ?_ | refine B2 rfl rfl rfl rfl ?_ | refine B3 rfl rfl rfl rfl ?_ | refine B4 rfl rfl rfl rfl ?_ | refine B5 rfl rfl rfl rfl ?_ | refine B6 rfl rfl rfl rfl ?_ | refine B7 rfl rfl rfl rfl rfl ?_ | refine B8 rfl rfl rfl rfl rfl ?_ | refine B9 rfl rfl rfl rfl rfl rfl rfl ?_ | refine BA rfl rfl rfl rfl rfl rfl rfl ?_) | (refine IsConv ?_; refine C1 rfl rfl rfl rfl rfl ?_) | (refine IsLoad ?_; first | refine L1 rfl rfl rfl rfl ?_ | refine L2 rfl rfl rfl rfl rfl ?_) | (refine IsStore ?_; refine S1 rfl rfl rfl rfl rfl rfl rfl (fun _ => ?_)) | (refine IsBox ?_; refine N1 rfl rfl rfl rfl (fun _ => ?_)) | (refine IsAlloc ?_; refine N2 rfl rfl rfl rfl (fun _ => ?_)) | (refine IsBuild ?_; refine U1 rfl rfl rfl rfl rfl rfl ?_) | refine V1 rfl rfl rfl ?_) | (refine IsAt ?_; first | (with_reducible first | refine T1 ?_ | refine T2 ?_ | refine T3 ?_ | refine T4 ?_ | refine T5 ?_ | refine T6 ?_ | refine T7 ?_ | refine T8 ?_ | refine T9 ?_ | refine TA ?_ | refine TB ?_ | refine TC ?_) | ((with_reducible show At _ (PBlock _ _ (Exit.exit _)) _ _); first | refine At_block_hit ?_ | refine At_block_miss rfl ?_)) | (refine IsJ ?_; first | refine J_seq ?_ | refine J_region ?_ | refine J_block ?_ | refine J_skip ?_ | refine J_ret ?_ | refine J_exit ?_ | (refine IsCond ?_; first | refine J_cond_t rfl ?_ | refine J_cond_f rfl ?_ | refine K1 rfl ?_ | refine K2 rfl ?_ | refine K3 rfl ?_ | refine K4 rfl ?_ | refine J_cb rfl (fun _ => ?_) (fun _ => ?_) | refine J_nb rfl (fun _ => ?_) (fun _ => ?_))))
  refine JO_l (OL_call [3, 3] rfl rfl rfl (Top_spec _ hc (by omega)) rfl) rfl rfl ?_; rintro _ _ ⟨_, ⟨rfl, rfl⟩, rfl⟩
  repeat' (first | (refine IsO ?_; first | refine JO_nil ?_ | (refine IsG ?_; first | refine G1 rfl rfl ?_ | refine G2 rfl ?_) | (refine IsMove ?_; first | refine M1 rfl rfl rfl ?_ | refine M2 rfl rfl rfl ?_ | refine M3 rfl rfl rfl ?_ | refine M4 rfl rfl rfl ?_ | refine M5 rfl rfl rfl (fun _ => ?_) (fun _ => ?_) | refine M6 rfl rfl rfl (fun _ => ?_) (fun _ => ?_)) | (refine IsBin ?_; first | refine B1 rfl rfl rfl rfl ?_ | refine B2 rfl rfl rfl rfl ?_ | refine B3 rfl rfl rfl rfl ?_ | refine B4 rfl rfl rfl rfl ?_ | refine B5 rfl rfl rfl rfl ?_ | refine B6 rfl rfl rfl rfl ?_ | refine B7 rfl rfl rfl rfl rfl ?_ | refine B8 rfl rfl rfl rfl rfl ?_ | refine B9 rfl rfl rfl rfl rfl rfl rfl ?_ | refine BA rfl rfl rfl rfl rfl rfl rfl ?_) | (refine IsConv ?_; refine C1 rfl rfl rfl rfl rfl ?_) | (refine IsLoad ?_; first | refine L1 rfl rfl rfl rfl ?_ | refine L2 rfl rfl rfl rfl rfl ?_) | (refine IsStore ?_; refine S1 rfl rfl rfl rfl rfl rfl rfl (fun _ => ?_)) | (refine IsBox ?_; refine N1 rfl rfl rfl rfl (fun _ => ?_)) | (refine IsAlloc ?_; refine N2 rfl rfl rfl rfl (fun _ => ?_)) | (refine IsBuild ?_; refine U1 rfl rfl rfl rfl rfl rfl ?_) | refine V1 rfl rfl rfl ?_) | (refine IsAt ?_; first | (with_reducible first | refine T1 ?_ | refine T2 ?_ | refine T3 ?_ | refine T4 ?_ | refine T5 ?_ | refine T6 ?_ | refine T7 ?_ | refine T8 ?_ | refine T9 ?_ | refine TA ?_ | refine TB ?_ | refine TC ?_) | ((with_reducible show At _ (PBlock _ _ (Exit.exit _)) _ _); first | refine At_block_hit ?_ | refine At_block_miss rfl ?_)) | (refine IsJ ?_; first | refine J_seq ?_ | refine J_region ?_ | refine J_block ?_ | refine J_skip ?_ | refine J_ret ?_ | refine J_exit ?_ | (refine IsCond ?_; first | refine J_cond_t rfl ?_ | refine J_cond_f rfl ?_ | refine K1 rfl ?_ | refine K2 rfl ?_ | refine K3 rfl ?_ | refine K4 rfl ?_ | refine J_cb rfl (fun _ => ?_) (fun _ => ?_) | refine J_nb rfl (fun _ => ?_) (fun _ => ?_))))
  exact At_ret rfl rfl (.agg rfl rfl rfl (by repeat (first | exact .head _ | refine .tail _ ?_)) rfl (.tmp rfl (.tmp rfl .nil))) rfl (is := [1, 1]) rfl ⟨rfl, rfl⟩
set_option maxHeartbeats 8000000 in
theorem refPlace_ok (kd pt : Int) (k : Nat) (hc : Ch ws 0 os T) (hT : T ≤ n) (hn : n ≤ 65536) (hg : goodB kd k pt = true) (hf : T + 1 + k ≤ n) : Does Try.prog 49 [refV n a os.length cap, headV kd k pt] (refL a cap os)
    (fun v l => ∃ a' cap' wa wc, v = .tuple #[refV n a' (os ++ [(⟨T, kd, pt, List.replicate k 0, wa, wc⟩ : RO)]).length cap', .int .i64 T, .int .i64 0] ∧ l = refL a' cap' (os ++ [⟨T, kd, pt, List.replicate k 0, wa, wc⟩])) := by
  have hgb := of_decide_eq_true hg
  have hlen := hc.len
  refine Does.of tiok Try.func49 (by kernel_rfl) rfl Try.ntmps49 rfl ?_
  intro W fr
  refine J_rowzf P0 ?_
  rintro ⟨hl, hnn, hcc⟩
  have hR : Reads (objsZ a cap os) 5 os.length a cap (os.flatMap cellsO) := Reads.rowz hl hnn
  repeat' (first | (refine IsO ?_; first | refine JO_nil ?_ | (refine IsG ?_; first | refine G1 rfl rfl ?_ | refine G2 rfl ?_) | (refine IsMove ?_; first | refine M1 rfl rfl rfl ?_ | refine M2 rfl rfl rfl ?_ | refine M3 rfl rfl rfl ?_ | refine M4 rfl rfl rfl ?_ | refine M5 rfl rfl rfl (fun _ => ?_) (fun _ => ?_) | refine M6 rfl rfl rfl (fun _ => ?_) (fun _ => ?_)) | (refine IsBin ?_; first | refine B1 rfl rfl rfl rfl ?_ | refine B2 rfl rfl rfl rfl ?_ | refine B3 rfl rfl rfl rfl ?_ | refine B4 rfl rfl rfl rfl ?_ | refine B5 rfl rfl rfl rfl ?_ | refine B6 rfl rfl rfl rfl ?_ | refine B7 rfl rfl rfl rfl rfl ?_ | refine B8 rfl rfl rfl rfl rfl ?_ | refine B9 rfl rfl rfl rfl rfl rfl rfl ?_ | refine BA rfl rfl rfl rfl rfl rfl rfl ?_) | (refine IsConv ?_; refine C1 rfl rfl rfl rfl rfl ?_) | (refine IsLoad ?_; first | refine L1 rfl rfl rfl rfl ?_ | refine L2 rfl rfl rfl rfl rfl ?_) | (refine IsStore ?_; refine S1 rfl rfl rfl rfl rfl rfl rfl (fun _ => ?_)) | (refine IsBox ?_; refine N1 rfl rfl rfl rfl (fun _ => ?_)) | (refine IsAlloc ?_; refine N2 rfl rfl rfl rfl (fun _ => ?_)) | (refine IsBuild ?_; refine U1 rfl rfl rfl rfl rfl rfl ?_) | refine V1 rfl rfl rfl ?_) | (refine IsAt ?_; first | (with_reducible first | refine T1 ?_ | refine T2 ?_ | refine T3 ?_ | refine T4 ?_ | refine T5 ?_ | refine T6 ?_ | refine T7 ?_ | refine T8 ?_ | refine T9 ?_ | refine TA ?_ | refine TB ?_ | refine TC ?_) | ((with_reducible show At _ (PBlock _ _ (Exit.exit _)) _ _); first | refine At_block_hit ?_ | refine At_block_miss rfl ?_)) | (refine IsJ ?_; first | refine J_seq ?_ | refine J_region ?_ | refine J_block ?_ | refine J_skip ?_ | refine J_ret ?_ | refine J_exit ?_ | (refine IsCond ?_; first | refine J_cond_t rfl ?_ | refine J_cond_f rfl ?_ | refine K1 rfl ?_ | refine K2 rfl ?_ | refine K3 rfl ?_ | refine K4 rfl ?_ | refine J_cb rfl (fun _ => ?_) (fun _ => ?_) | refine J_nb rfl (fun _ => ?_) (fun _ => ?_))))
  rename_i b2 b3 b4
  refine JO_l (OL_call [] rfl rfl rfl (refGood_spec kd k pt) rfl) rfl rfl ?_; rintro _ _ ⟨_, ⟨rfl, rfl⟩, rfl⟩
  rw [hg]
  repeat' (first | (refine IsO ?_; first | refine JO_nil ?_ | (refine IsG ?_; first | refine G1 rfl rfl ?_ | refine G2 rfl ?_) | (refine IsMove ?_; first | refine M1 rfl rfl rfl ?_ | refine M2 rfl rfl rfl ?_ | refine M3 rfl rfl rfl ?_ | refine M4 rfl rfl rfl ?_ | refine M5 rfl rfl rfl (fun _ => ?_) (fun _ => ?_) | refine M6 rfl rfl rfl (fun _ => ?_) (fun _ => ?_)) | (refine IsBin ?_; first | refine B1 rfl rfl rfl rfl ?_ | refine B2 rfl rfl rfl rfl ?_ | refine B3 rfl rfl rfl rfl ?_ | refine B4 rfl rfl rfl rfl ?_ | refine B5 rfl rfl rfl rfl ?_ | refine B6 rfl rfl rfl rfl ?_ | refine B7 rfl rfl rfl rfl rfl ?_ | refine B8 rfl rfl rfl rfl rfl ?_ | refine B9 rfl rfl rfl rfl rfl rfl rfl ?_ | refine BA rfl rfl rfl rfl rfl rfl rfl ?_) | (refine IsConv ?_; refine C1 rfl rfl rfl rfl rfl ?_) | (refine IsLoad ?_; first | refine L1 rfl rfl rfl rfl ?_ | refine L2 rfl rfl rfl rfl rfl ?_) | (refine IsStore ?_; refine S1 rfl rfl rfl rfl rfl rfl rfl (fun _ => ?_)) | (refine IsBox ?_; refine N1 rfl rfl rfl rfl (fun _ => ?_)) | (refine IsAlloc ?_; refine N2 rfl rfl rfl rfl (fun _ => ?_)) | (refine IsBuild ?_; refine U1 rfl rfl rfl rfl rfl rfl ?_) | refine V1 rfl rfl rfl ?_) | (refine IsAt ?_; first | (with_reducible first | refine T1 ?_ | refine T2 ?_ | refine T3 ?_ | refine T4 ?_ | refine T5 ?_ | refine T6 ?_ | refine T7 ?_ | refine T8 ?_ | refine T9 ?_ | refine TA ?_ | refine TB ?_ | refine TC ?_) | ((with_reducible show At _ (PBlock _ _ (Exit.exit _)) _ _); first | refine At_block_hit ?_ | refine At_block_miss rfl ?_)) | (refine IsJ ?_; first | refine J_seq ?_ | refine J_region ?_ | refine J_block ?_ | refine J_skip ?_ | refine J_ret ?_ | refine J_exit ?_ | (refine IsCond ?_; first | refine J_cond_t rfl ?_ | refine J_cond_f rfl ?_ | refine K1 rfl ?_ | refine K2 rfl ?_ | refine K3 rfl ?_ | refine K4 rfl ?_ | refine J_cb rfl (fun _ => ?_) (fun _ => ?_) | refine J_nb rfl (fun _ => ?_) (fun _ => ?_))))
  refine JO_l (OL_call [3, 3] rfl rfl rfl (Top_spec _ hc (by omega)) rfl) rfl rfl ?_; rintro _ _ ⟨_, ⟨rfl, rfl⟩, rfl⟩
  repeat' (first | (refine IsO ?_; first | refine JO_nil ?_ | (refine IsG ?_; first | refine G1 rfl rfl ?_ | refine G2 rfl ?_) | (refine IsMove ?_; first | refine M1 rfl rfl rfl ?_ | refine M2 rfl rfl rfl ?_ | refine M3 rfl rfl rfl ?_ | refine M4 rfl rfl rfl ?_ | refine M5 rfl rfl rfl (fun _ => ?_) (fun _ => ?_) | refine M6 rfl rfl rfl (fun _ => ?_) (fun _ => ?_)) | (refine IsBin ?_; first | refine B1 rfl rfl rfl rfl ?_ | refine B2 rfl rfl rfl rfl ?_ | refine B3 rfl rfl rfl rfl ?_ | refine B4 rfl rfl rfl rfl ?_ | refine B5 rfl rfl rfl rfl ?_ | refine B6 rfl rfl rfl rfl ?_ | refine B7 rfl rfl rfl rfl rfl ?_ | refine B8 rfl rfl rfl rfl rfl ?_ | refine B9 rfl rfl rfl rfl rfl rfl rfl ?_ | refine BA rfl rfl rfl rfl rfl rfl rfl ?_) | (refine IsConv ?_; refine C1 rfl rfl rfl rfl rfl ?_) | (refine IsLoad ?_; first | refine L1 rfl rfl rfl rfl ?_ | refine L2 rfl rfl rfl rfl rfl ?_) | (refine IsStore ?_; refine S1 rfl rfl rfl rfl rfl rfl rfl (fun _ => ?_)) | (refine IsBox ?_; refine N1 rfl rfl rfl rfl (fun _ => ?_)) | (refine IsAlloc ?_; refine N2 rfl rfl rfl rfl (fun _ => ?_)) | (refine IsBuild ?_; refine U1 rfl rfl rfl rfl rfl rfl ?_) | refine V1 rfl rfl rfl ?_) | (refine IsAt ?_; first | (with_reducible first | refine T1 ?_ | refine T2 ?_ | refine T3 ?_ | refine T4 ?_ | refine T5 ?_ | refine T6 ?_ | refine T7 ?_ | refine T8 ?_ | refine T9 ?_ | refine TA ?_ | refine TB ?_ | refine TC ?_) | ((with_reducible show At _ (PBlock _ _ (Exit.exit _)) _ _); first | refine At_block_hit ?_ | refine At_block_miss rfl ?_)) | (refine IsJ ?_; first | refine J_seq ?_ | refine J_region ?_ | refine J_block ?_ | refine J_skip ?_ | refine J_ret ?_ | refine J_exit ?_ | (refine IsCond ?_; first | refine J_cond_t rfl ?_ | refine J_cond_f rfl ?_ | refine K1 rfl ?_ | refine K2 rfl ?_ | refine K3 rfl ?_ | refine K4 rfl ?_ | refine J_cb rfl (fun _ => ?_) (fun _ => ?_) | refine J_nb rfl (fun _ => ?_) (fun _ => ?_))))
  let H2 : HP := blk b2 [.int .i64 n, .slice a os.length cap] 33
  let H3 : HP := blk b3 [.int .i64 kd, .int .i64 k, .int .i64 pt] 46
  let H4 : HP := blk b4 [.int .i64 0, .slice none 0 0] 33
  let PT : Plan := .l1 11 (.q 12 (.l1 13 .fin))
  let P038 : Plan := .l1 10 PT
  let P0810 : Plan := .l1 3 PT
  let P08 : Plan := .l2 3 P038 10 P0810
  refine J_plan [H2, H3] (fun H hl => hl.pick (is := [4, 3]) rfl) [2, 0, 5, 2, 0, 5, 0, 5, 2, 0, 2, 2, 0, 6]
    (.q 1 (.q 2 (.q 4 (.q 5 (.q 6 (.q 7 (.l2 0 (.l2 3 (.l1 8 (.q 9 P038)) 8 (.q 9 P08)) 8 (.q 9 (.l2 0 P08 10 (.l1 0 P0810)))))))))) (by kernel_rfl) (by kernel_rfl) ?_
  repeat' (refine IsF ?_; first | (refine JF_fin ?_; refine At_np ?_) | (refine JF_op rfl ?_; refine FsO ?_; first | (refine FsBin ?_; first | refine FB1 rfl rfl rfl rfl ?_ | refine FB2 rfl rfl rfl rfl ?_ | refine FB3 rfl rfl rfl rfl ?_ | refine FB4 rfl rfl rfl rfl ?_ | refine FB5 rfl rfl rfl rfl ?_ | refine FB6 rfl rfl rfl rfl ?_ | refine FB7 rfl rfl rfl rfl rfl ?_ | refine FB8 rfl rfl rfl rfl rfl ?_ | refine FB9 rfl rfl rfl rfl rfl rfl rfl ?_ | refine FBA rfl rfl rfl rfl rfl rfl rfl ?_) | (refine FsLoad ?_; first | refine FL1k rfl rfl rfl rfl rfl ?_ | refine FL2k rfl rfl rfl rfl rfl rfl ?_) | (refine FsBuild ?_; refine FU1 rfl rfl rfl rfl rfl rfl ?_) | refine FV1 rfl rfl rfl ?_))
  let OC : Nat → List Value := fun bw => [.int .i64 T, .int .i64 kd, .int .i64 k, .int .i64 pt, .slice (some ⟨bw, 0, none⟩) k k]
  let WB : Nat → HP := fun bw => blk bw (List.replicate k (.int .i64 0)) 3
  refine JF_cut (α := Option Addr × Nat × Nat × Nat) PT
    (fun z => [(2, ptr b2 0), (3, ptr b3 0), (4, ptr b4 0), (7, .int .i64 T), (26, .slice z.1 os.length z.2.1), (33, .slice (some ⟨z.2.2.1, 0, none⟩) 1 1)])
    (fun z => [objsZ z.1 z.2.1 os, blk z.2.2.1 (OC z.2.2.2) 48, WB z.2.2.2, H2, H3, H4, RW os]) (fun tail => ?_) ?_
  · refine JF_cut (α := Option Addr × Nat × Nat) P038
      (fun z => [(2, ptr b2 0), (3, ptr b3 0), (4, ptr b4 0), (7, .int .i64 T), (26, .slice z.1 os.length z.2.1), (32, .agg (OC z.2.2).toArray)])
      (fun z => [objsZ z.1 z.2.1 os, WB z.2.2, H2, H3, H4, RW os]) (fun s038 => ?_) ?_
    · refine JF_cut (α := Nat × Nat × Nat) P0810
        (fun z => [(2, ptr b2 0), (3, ptr b3 0), (4, ptr b4 0), (7, .int .i64 T), (23, .slice (some ⟨z.1, 0, none⟩) 0 0), (25, .slice a os.length cap), (33, .slice (some ⟨z.2.1, 0, none⟩) 1 1)])
        (fun z => [blk z.1 [] 48, blk z.2.1 (OC z.2.2) 48, WB z.2.2, H2, H3, H4, objsZ a cap os, RW os]) (fun s0810 => ?_) ?_
      · refine JF_cut (α := Nat × Nat) P08
          (fun z => [(2, ptr b2 0), (3, ptr b3 0), (4, ptr b4 0), (7, .int .i64 T), (23, .slice (some ⟨z.1, 0, none⟩) 0 0), (25, .slice a os.length cap), (32, .agg (OC z.2).toArray)])
          (fun z => [blk z.1 [] 48, WB z.2, H2, H3, H4, objsZ a cap os, RW os]) (fun s08 => ?_) ?_
        · refine JF_l2 ?_ ?_
          · refine JFO_l rfl (OL_buildSlice (cs := []) rfl rfl rfl rfl rfl rfl rfl rfl) rfl rfl (.inr ?_) ?_
            · rintro _ _ ⟨_, rfl, rfl⟩ H hl
              exact hl.pick (is := [5, 4]) rfl
            rintro _ _ ⟨bz, rfl, rfl⟩ _
            refine JF_l2 ?_ ?_
            · refine JFO_l rfl (OL_appendz (m := os.length) rfl rfl rfl rfl rfl (hR.src (by repeat (first | exact .head _ | refine .tail _ ?_))) rfl (fun _ h => by cases h) (by omega) (by omega) (by decide)) rfl rfl (.inr ?_) ?_
              · rintro _ _ ⟨_, _, rfl, rfl⟩ H hl
                exact hl.pick (is := [6, 5]) rfl
              rintro _ _ ⟨a1, c1, rfl, rfl⟩ _
              refine JF_l1 (JFO_l rfl (OL_makeN rfl rfl rfl rfl (by omega) (by omega)) rfl rfl (.inr ?_) ?_)
              · rintro _ _ ⟨_, rfl, rfl⟩ H hl
                exact hl.pick (is := [7, 6]) rfl
              rintro _ _ ⟨bw, rfl, rfl⟩ _
              repeat' (refine IsF ?_; first | (refine JF_fin ?_; refine At_np ?_) | (refine JF_op rfl ?_; refine FsO ?_; first | (refine FsBin ?_; first | refine FB1 rfl rfl rfl rfl ?_ | refine FB2 rfl rfl rfl rfl ?_ | refine FB3 rfl rfl rfl rfl ?_ | refine FB4 rfl rfl rfl rfl ?_ | refine FB5 rfl rfl rfl rfl ?_ | refine FB6 rfl rfl rfl rfl ?_ | refine FB7 rfl rfl rfl rfl rfl ?_ | refine FB8 rfl rfl rfl rfl rfl ?_ | refine FB9 rfl rfl rfl rfl rfl rfl rfl ?_ | refine FBA rfl rfl rfl rfl rfl rfl rfl ?_) | (refine FsLoad ?_; first | refine FL1k rfl rfl rfl rfl rfl ?_ | refine FL2k rfl rfl rfl rfl rfl rfl ?_) | (refine FsBuild ?_; refine FU1 rfl rfl rfl rfl rfl rfl ?_) | refine FV1 rfl rfl rfl ?_))
              exact JF_to (by repeat (first | exact True.intro | refine And.intro rfl ?_)) (fun H hl => hl.pick (is := [1, 0, 5, 4, 3, 2]) rfl) (fun H hl => hl.pick (is := [2, 2]) rfl) (s038 (a1, c1, bw))
            · refine JFO_l rfl (OL_makeN rfl rfl rfl rfl (by omega) (by omega)) rfl rfl (.inr ?_) ?_
              · rintro _ _ ⟨_, rfl, rfl⟩ H hl
                exact hl.pick (is := [6, 5]) rfl
              rintro _ _ ⟨bw, rfl, rfl⟩ _
              repeat' (refine IsF ?_; first | (refine JF_fin ?_; refine At_np ?_) | (refine JF_op rfl ?_; refine FsO ?_; first | (refine FsBin ?_; first | refine FB1 rfl rfl rfl rfl ?_ | refine FB2 rfl rfl rfl rfl ?_ | refine FB3 rfl rfl rfl rfl ?_ | refine FB4 rfl rfl rfl rfl ?_ | refine FB5 rfl rfl rfl rfl ?_ | refine FB6 rfl rfl rfl rfl ?_ | refine FB7 rfl rfl rfl rfl rfl ?_ | refine FB8 rfl rfl rfl rfl rfl ?_ | refine FB9 rfl rfl rfl rfl rfl rfl rfl ?_ | refine FBA rfl rfl rfl rfl rfl rfl rfl ?_) | (refine FsLoad ?_; first | refine FL1k rfl rfl rfl rfl rfl ?_ | refine FL2k rfl rfl rfl rfl rfl rfl ?_) | (refine FsBuild ?_; refine FU1 rfl rfl rfl rfl rfl rfl ?_) | refine FV1 rfl rfl rfl ?_))
              exact JF_to (by repeat (first | exact True.intro | refine And.intro rfl ?_)) (fun H hl => hl.pick (is := [1, 0, 4, 3, 2, 0, 0]) rfl) (fun H hl => hl.pick (is := [2, 2]) rfl) (s08 (bz, bw))
          · refine JFO_l rfl (OL_makeN rfl rfl rfl rfl (by omega) (by omega)) rfl rfl (.inr ?_) ?_
            · rintro _ _ ⟨_, rfl, rfl⟩ H hl
              exact hl.pick (is := [5, 4]) rfl
            rintro _ _ ⟨bw, rfl, rfl⟩ _
            repeat' (refine IsF ?_; first | (refine JF_fin ?_; refine At_np ?_) | (refine JF_op rfl ?_; refine FsO ?_; first | (refine FsBin ?_; first | refine FB1 rfl rfl rfl rfl ?_ | refine FB2 rfl rfl rfl rfl ?_ | refine FB3 rfl rfl rfl rfl ?_ | refine FB4 rfl rfl rfl rfl ?_ | refine FB5 rfl rfl rfl rfl ?_ | refine FB6 rfl rfl rfl rfl ?_ | refine FB7 rfl rfl rfl rfl rfl ?_ | refine FB8 rfl rfl rfl rfl rfl ?_ | refine FB9 rfl rfl rfl rfl rfl rfl rfl ?_ | refine FBA rfl rfl rfl rfl rfl rfl rfl ?_) | (refine FsLoad ?_; first | refine FL1k rfl rfl rfl rfl rfl ?_ | refine FL2k rfl rfl rfl rfl rfl rfl ?_) | (refine FsBuild ?_; refine FU1 rfl rfl rfl rfl rfl rfl ?_) | refine FV1 rfl rfl rfl ?_))
            refine JF_l2 ?_ ?_
            · refine JFO_l rfl (OL_buildSlice (cs := []) rfl rfl rfl rfl rfl rfl rfl rfl) rfl rfl (.inr ?_) ?_
              · rintro _ _ ⟨_, rfl, rfl⟩ H hl
                exact hl.pick (is := [6, 5]) rfl
              rintro _ _ ⟨bz, rfl, rfl⟩ _
              exact JF_to (by repeat (first | exact True.intro | refine And.intro rfl ?_)) (fun H hl => hl.pick (is := [0, 0, 4, 3, 2, 0, 0]) rfl) (fun H hl => hl.pick (is := [2, 2]) rfl) (s08 (bz, bw))
            · refine JFO_l rfl (OL_buildSlice (cs := OC bw) rfl rfl rfl rfl rfl rfl rfl rfl) rfl rfl (.inr ?_) ?_
              · rintro _ _ ⟨_, rfl, rfl⟩ H hl
                exact hl.pick (is := [6, 5]) rfl
              rintro _ _ ⟨bb, rfl, rfl⟩ _
              refine JF_l1 (JFO_l rfl (OL_buildSlice (cs := []) rfl rfl rfl rfl rfl rfl rfl rfl) rfl rfl (.inr ?_) ?_)
              · rintro _ _ ⟨_, rfl, rfl⟩ H hl
                exact hl.pick (is := [7, 6]) rfl
              rintro _ _ ⟨bz, rfl, rfl⟩ _
              exact JF_to (by repeat (first | exact True.intro | refine And.intro rfl ?_)) (fun H hl => hl.pick (is := [0, 0, 0, 4, 3, 2, 0, 0]) rfl) (fun H hl => hl.pick (is := [3, 3]) rfl) (s0810 (bz, bb, bw))
        · rintro ⟨bz, bw⟩
          refine JF_l2 ?_ ?_
          · refine JFO_l rfl (OL_appendz (m := os.length) rfl rfl rfl rfl rfl (hR.src (by repeat (first | exact .head _ | refine .tail _ ?_))) rfl (fun _ h => by cases h) (by omega) (by omega) (by decide)) rfl rfl (.inr ?_) ?_
            · rintro _ _ ⟨_, _, rfl, rfl⟩ H hl
              exact hl.pick (is := [3, 3]) rfl
            rintro _ _ ⟨a1, c1, rfl, rfl⟩ _
            exact JF_to (by repeat (first | exact True.intro | refine And.intro rfl ?_)) (fun H hl => hl.pick (is := [0, 1, 1, 1, 1, 2]) rfl) (fun H hl => hl.pick (is := [2, 2]) rfl) (s038 (a1, c1, bw))
          · refine JFO_l rfl (OL_buildSlice (cs := OC bw) rfl rfl rfl rfl rfl rfl rfl rfl) rfl rfl (.inr ?_) ?_
            · rintro _ _ ⟨_, rfl, rfl⟩ H hl
              exact hl.pick (is := [3, 3]) rfl
            rintro _ _ ⟨bb, rfl, rfl⟩ _
            exact JF_to (by repeat (first | exact True.intro | refine And.intro rfl ?_)) (fun H hl => hl.pick (is := [1, 0, 0, 0, 0, 0, 0, 0]) rfl) (fun H hl => hl.pick (is := [3, 3]) rfl) (s0810 (bz, bb, bw))
      · rintro ⟨bz, bb, bw⟩
        refine JF_l1 (JFO_l rfl (OL_appendz (m := os.length) rfl rfl rfl rfl rfl (hR.src (by repeat (first | exact .head _ | refine .tail _ ?_))) rfl (fun _ h => by cases h) (by omega) (by omega) (by decide)) rfl rfl (.inr ?_) ?_)
        · rintro _ _ ⟨_, _, rfl, rfl⟩ H hl
          exact hl.pick (is := [4, 4]) rfl
        rintro _ _ ⟨a1, c1, rfl, rfl⟩ _
        exact JF_to (by repeat (first | exact True.intro | refine And.intro rfl ?_)) (fun H hl => hl.pick (is := [0, 1, 1, 1, 1, 1, 2]) rfl) (fun H hl => hl.pick (is := [3, 3]) rfl) (tail (a1, c1, bb, bw))
    · rintro ⟨a1, c1, bw⟩
      refine JF_l1 (JFO_l rfl (OL_buildSlice (cs := OC bw) rfl rfl rfl rfl rfl rfl rfl rfl) rfl rfl (.inr ?_) ?_)
      · rintro _ _ ⟨_, rfl, rfl⟩ H hl
        exact hl.pick (is := [3, 3]) rfl
      rintro _ _ ⟨bb, rfl, rfl⟩ _
      exact JF_to (by repeat (first | exact True.intro | refine And.intro rfl ?_)) (fun H hl => hl.pick (is := [1, 0, 0, 0, 0, 0, 0]) rfl) (fun H hl => hl.pick (is := [3, 3]) rfl) (tail (a1, c1, bb, bw))
  · rintro ⟨a1, c1, bb, bw⟩
    refine JF_l1 (JFO_l rfl (OL_appendr (m := 1) rfl rfl rfl rfl rfl P0 ((Reads.blk rfl).src (.tail _ (.head _))) rfl rfl (fun _ h => by cases h) (by omega) (by omega) (by decide)) rfl rfl (.inr ?_) ?_)
    · rintro _ _ ⟨_, _, rfl, rfl⟩ H hl
      exact hl.pick (is := [3, 3]) rfl
    rintro _ _ ⟨a2, c2, rfl, rfl⟩ _
    repeat' (refine IsF ?_; first | (refine JF_fin ?_; refine At_np ?_) | (refine JF_op rfl ?_; refine FsO ?_; first | (refine FsBin ?_; first | refine FB1 rfl rfl rfl rfl ?_ | refine FB2 rfl rfl rfl rfl ?_ | refine FB3 rfl rfl rfl rfl ?_ | refine FB4 rfl rfl rfl rfl ?_ | refine FB5 rfl rfl rfl rfl ?_ | refine FB6 rfl rfl rfl rfl ?_ | refine FB7 rfl rfl rfl rfl rfl ?_ | refine FB8 rfl rfl rfl rfl rfl ?_ | refine FB9 rfl rfl rfl rfl rfl rfl rfl ?_ | refine FBA rfl rfl rfl rfl rfl rfl rfl ?_) | (refine FsLoad ?_; first | refine FL1k rfl rfl rfl rfl rfl ?_ | refine FL2k rfl rfl rfl rfl rfl rfl ?_) | (refine FsBuild ?_; refine FU1 rfl rfl rfl rfl rfl rfl ?_) | refine FV1 rfl rfl rfl ?_))
    refine JF_l1 (JFO_l0 rfl (OL_store rfl rfl rfl rfl rfl rfl (by first | exact P0 | exact P1 | exact P2 | exact P3 | exact P4 | exact P5 | exact P6 | exact P7) (by rfl)) rfl (.inl rfl) ?_)
    rintro _ _ rfl _
    repeat' (refine IsF ?_; first | (refine JF_fin ?_; refine At_np ?_) | (refine JF_op rfl ?_; refine FsO ?_; first | (refine FsBin ?_; first | refine FB1 rfl rfl rfl rfl ?_ | refine FB2 rfl rfl rfl rfl ?_ | refine FB3 rfl rfl rfl rfl ?_ | refine FB4 rfl rfl rfl rfl ?_ | refine FB5 rfl rfl rfl rfl ?_ | refine FB6 rfl rfl rfl rfl ?_ | refine FB7 rfl rfl rfl rfl rfl ?_ | refine FB8 rfl rfl rfl rfl rfl ?_ | refine FB9 rfl rfl rfl rfl rfl rfl rfl ?_ | refine FBA rfl rfl rfl rfl rfl rfl rfl ?_) | (refine FsLoad ?_; first | refine FL1k rfl rfl rfl rfl rfl ?_ | refine FL2k rfl rfl rfl rfl rfl rfl ?_) | (refine FsBuild ?_; refine FU1 rfl rfl rfl rfl rfl rfl ?_) | refine FV1 rfl rfl rfl ?_))
    repeat' (first | (refine IsO ?_; first | refine JO_nil ?_ | (refine IsG ?_; first | refine G1 rfl rfl ?_ | refine G2 rfl ?_) | (refine IsMove ?_; first | refine M1 rfl rfl rfl ?_ | refine M2 rfl rfl rfl ?_ | refine M3 rfl rfl rfl ?_ | refine M4 rfl rfl rfl ?_ | refine M5 rfl rfl rfl (fun _ => ?_) (fun _ => ?_) | refine M6 rfl rfl rfl (fun _ => ?_) (fun _ => ?_)) | (refine IsBin ?_; first | refine B1 rfl rfl rfl rfl ?_ | refine B2 rfl rfl rfl rfl ?_ | refine B3 rfl rfl rfl rfl ?_ | refine B4 rfl rfl rfl rfl ?_ | refine B5 rfl rfl rfl rfl ?_ | refine B6 rfl rfl rfl rfl ?_ | refine B7 rfl rfl rfl rfl rfl ?_ | refine B8 rfl rfl rfl rfl rfl ?_ | refine B9 rfl rfl rfl rfl rfl rfl rfl ?_ | refine BA rfl rfl rfl rfl rfl rfl rfl ?_) | (refine IsConv ?_; refine C1 rfl rfl rfl rfl rfl ?_) | (refine IsLoad ?_; first | refine L1 rfl rfl rfl rfl ?_ | refine L2 rfl rfl rfl rfl rfl ?_) | (refine IsStore ?_; refine S1 rfl rfl rfl rfl rfl rfl rfl (fun _ => ?_)) | (refine IsBox ?_; refine N1 rfl rfl rfl rfl (fun _ => ?_)) | (refine IsAlloc ?_; refine N2 rfl rfl rfl rfl (fun _ => ?_)) | (refine IsBuild ?_; refine U1 rfl rfl rfl rfl rfl rfl ?_) | refine V1 rfl rfl rfl ?_) | (refine IsAt ?_; first | (with_reducible first | refine T1 ?_ | refine T2 ?_ | refine T3 ?_ | refine T4 ?_ | refine T5 ?_ | refine T6 ?_ | refine T7 ?_ | refine T8 ?_ | refine T9 ?_ | refine TA ?_ | refine TB ?_ | refine TC ?_) | ((with_reducible show At _ (PBlock _ _ (Exit.exit _)) _ _); first | refine At_block_hit ?_ | refine At_block_miss rfl ?_)) | (refine IsJ ?_; first | refine J_seq ?_ | refine J_region ?_ | refine J_block ?_ | refine J_skip ?_ | refine J_ret ?_ | refine J_exit ?_ | (refine IsCond ?_; first | refine J_cond_t rfl ?_ | refine J_cond_f rfl ?_ | refine K1 rfl ?_ | refine K2 rfl ?_ | refine K3 rfl ?_ | refine K4 rfl ?_ | refine J_cb rfl (fun _ => ?_) (fun _ => ?_) | refine J_nb rfl (fun _ => ?_) (fun _ => ?_))))
    have e3 : (os ++ [(⟨T, kd, pt, List.replicate k 0, some ⟨bw, 0, none⟩, k⟩ : RO)]).length = os.length + 1 := by simp
    have e2 : (os ++ [(⟨T, kd, pt, List.replicate k 0, some ⟨bw, 0, none⟩, k⟩ : RO)]).flatMap cellsO = os.flatMap cellsO ++ OC bw := by simp [OC]
    refine At_ret' rfl rfl (.agg rfl rfl rfl (by repeat (first | exact .head _ | refine .tail _ ?_)) rfl (.tmp rfl (.tmp rfl .nil))) rfl (fun H hl => ?_) ⟨a2, c2, some ⟨bw, 0, none⟩, k, ?_, rfl⟩
    · have h1 := hl.pick (is := [4, 5, 2]) rfl
      have h2 := rowO_new (i := T) (kd := kd) (pt := pt) h1
      have h3 := RW.to (news := [⟨T, kd, pt, List.replicate k 0, some ⟨bw, 0, none⟩, k⟩]) (os := os) (os' := os ++ [⟨T, kd, pt, List.replicate k 0, some ⟨bw, 0, none⟩, k⟩]) (dr := []) (by rw [List.append_nil]; exact List.perm_append_comm) h2
      unfold refL objsZ
      rw [e2, e3]
      exact h3.swap
    · rw [e3]; rfl
end ops
end Go.Proofs.Ytchanmljjfcplaa
