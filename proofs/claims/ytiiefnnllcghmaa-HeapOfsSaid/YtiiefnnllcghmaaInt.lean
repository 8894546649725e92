/-
  Our own: besomlaw01.ints: the same numbers?
-/
import Derived.Test.YtiiefnnllcghmaaJq
import Derived.Test.YtiiefnnllcghmaaHr
set_option linter.unusedVariables false
set_option linter.unusedSimpArgs false
namespace Go.Proofs.Ytiiefnnllcghmaa
open Go.Sep
theorem take_eq_succ {xs ys : List Int} {i : Nat} {x y : Int} (h : xs.take i = ys.take i) (hx : xs[i]? = some x) (hy : ys[i]? = some y) : (xs.take (i + 1) = ys.take (i + 1)) ↔ x = y := by
  rw [List.take_add_one, List.take_add_one, hx, hy, h]
  simp
set_option maxHeartbeats 2000000 in
theorem ints_spec {R1 R2 : HP} {l0 : List HP} {a b : Option Addr} {cap cap' : Nat} {xs ys : List Int} (hR1 : Reads R1 1 xs.length a cap (intsV xs)) (hR2 : Reads R2 1 ys.length b cap' (intsV ys)) (hm1 : R1 ∈ l0) (hm2 : R2 ∈ l0) (hb : xs.length ≤ 1000000) (hb2 : ys.length ≤ 1000000) :
    Does Try.prog 26 [.slice a xs.length cap, .slice b ys.length cap'] l0 (fun v l => v = .bool (decide (xs = ys)) ∧ l = l0) := by
  refine Does.of tiok Try.func26 (by kernel_rfl) rfl Try.ntmps26 rfl ?_
  intro W fr
  repeat' (first | (refine IsO ?_; first | refine JO_nil ?_ | (refine IsG ?_; first | refine G1 ?_ | refine G2 ?_) | (refine IsMove ?_; first | refine M1 rfl ?_ | refine M2 rfl ?_ | refine M3 rfl ?_ | refine M4 rfl ?_ | refine M5 rfl (fun _ => ?_) (fun _ => ?_) | refine M6 rfl (fun _ => ?_) (fun _ => ?_)) | (refine IsBin ?_; first | refine B1 rfl rfl ?_ | refine B2 rfl rfl ?_ | refine B3 rfl rfl ?_ | refine B4 rfl rfl ?_ | refine B5 rfl rfl ?_ | refine B6 rfl rfl ?_ | refine B7 rfl rfl ?_ | refine B8 rfl rfl ?_ | refine B9 rfl rfl ?_ | refine BA rfl rfl ?_) | (refine IsConv ?_; refine C1 rfl ?_) | (refine IsLoad ?_; first | refine L1 rfl ?_ | refine L2 rfl ?_) | (refine IsStore ?_; refine S1 rfl rfl (fun _ => ?_)) | (refine IsBox ?_; refine N1 rfl (fun _ => ?_)) | (refine IsAlloc ?_; refine N2 (fun _ => ?_)) | (refine IsBuild ?_; refine U1 ?_) | refine V1 ?_) | (refine IsAt ?_; first | (with_reducible first | refine T1 ?_ | refine T2 ?_ | refine T3 ?_ | refine T4 ?_ | refine T5 ?_ | refine T6 ?_ | refine T7 ?_ | refine T8 ?_ | refine T9 ?_ | refine TA ?_ | refine TB ?_ | refine TC ?_) | ((with_reducible show At _ (PBlock _ _ (Exit.exit _)) _ _); first | refine At_block_hit ?_ | refine At_block_miss rfl ?_)) | (refine IsJ ?_; first | refine J_seq ?_ | refine J_region ?_ | refine J_block ?_ | refine J_skip ?_ | refine J_ret ?_ | refine J_exit ?_ | (refine IsCond ?_; first | refine J_cond_t rfl ?_ | refine J_cond_f rfl ?_ | refine K1 rfl ?_ | refine K2 rfl ?_ | refine K3 rfl ?_ | refine K4 rfl ?_ | refine J_cb rfl (fun _ => ?_) (fun _ => ?_) | refine J_nb rfl (fun _ => ?_) (fun _ => ?_))))
  · rename_i hne
    exact At_ret' rfl rfl (.tmp rfl .nil) rfl (fun _ h => h) ⟨by rw [decide_eq_false (fun e => hne (by rw [e]))]; rfl, rfl⟩
  rename_i heq
  have heq' : xs.length = ys.length := by omega
  refine J_loop (α := Nat) (fun i => i ≤ xs.length ∧ xs.take i = ys.take i)
    (fun i => [(0, .slice a xs.length cap), (1, .slice b ys.length cap'), (4, .bool false), (11, .slice a xs.length cap), (12, .int .i64 xs.length), (13, .int .i64 i)])
    (fun _ => l0) (fun i => xs.length - i) 0 ⟨Nat.zero_le _, rfl⟩ (by repeat (first | exact True.intro | refine And.intro rfl ?_)) (fun H hl => hl) ?_
  rintro i ⟨hi, htk⟩
  repeat' (first | (refine IsO ?_; first | refine JO_nil ?_ | (refine IsG ?_; first | refine G1 ?_ | refine G2 ?_) | (refine IsMove ?_; first | refine M1 rfl ?_ | refine M2 rfl ?_ | refine M3 rfl ?_ | refine M4 rfl ?_ | refine M5 rfl (fun _ => ?_) (fun _ => ?_) | refine M6 rfl (fun _ => ?_) (fun _ => ?_)) | (refine IsBin ?_; first | refine B1 rfl rfl ?_ | refine B2 rfl rfl ?_ | refine B3 rfl rfl ?_ | refine B4 rfl rfl ?_ | refine B5 rfl rfl ?_ | refine B6 rfl rfl ?_ | refine B7 rfl rfl ?_ | refine B8 rfl rfl ?_ | refine B9 rfl rfl ?_ | refine BA rfl rfl ?_) | (refine IsConv ?_; refine C1 rfl ?_) | (refine IsLoad ?_; first | refine L1 rfl ?_ | refine L2 rfl ?_) | (refine IsStore ?_; refine S1 rfl rfl (fun _ => ?_)) | (refine IsBox ?_; refine N1 rfl (fun _ => ?_)) | (refine IsAlloc ?_; refine N2 (fun _ => ?_)) | (refine IsBuild ?_; refine U1 ?_) | refine V1 ?_) | (refine IsAt ?_; first | (with_reducible first | refine T1 ?_ | refine T2 ?_ | refine T3 ?_ | refine T4 ?_ | refine T5 ?_ | refine T6 ?_ | refine T7 ?_ | refine T8 ?_ | refine T9 ?_ | refine TA ?_ | refine TB ?_ | refine TC ?_) | ((with_reducible show At _ (PBlock _ _ (Exit.exit _)) _ _); first | refine At_block_hit ?_ | refine At_block_miss rfl ?_)) | (refine IsJ ?_; first | refine J_seq ?_ | refine J_region ?_ | refine J_block ?_ | refine J_skip ?_ | refine J_ret ?_ | refine J_exit ?_ | (refine IsCond ?_; first | refine J_cond_t rfl ?_ | refine J_cond_f rfl ?_ | refine K1 rfl ?_ | refine K2 rfl ?_ | refine K3 rfl ?_ | refine K4 rfl ?_ | refine J_cb rfl (fun _ => ?_) (fun _ => ?_) | refine J_nb rfl (fun _ => ?_) (fun _ => ?_))))
  · rename_i hlt
    have h1 : i < xs.length := by omega
    have h2 : i < ys.length := by omega
    obtain ⟨x, hx⟩ : ∃ x, xs[i]? = some x := ⟨xs[i], List.getElem?_eq_getElem _⟩
    obtain ⟨y, hy⟩ : ∃ y, ys[i]? = some y := ⟨ys[i], List.getElem?_eq_getElem _⟩
    have hnext := take_eq_succ htk hx hy
    refine J_fact _ (fun w hs => hR1.some (by omega) hs (List.mem_append_left _ hm1)) ?_
    rintro ⟨b1, o1, rfl⟩
    refine J_fact _ (fun w hs => hR2.some (by omega) hs (List.mem_append_left _ hm2)) ?_
    rintro ⟨b2, o2, rfl⟩
    refine J_draw [0, 0, 0, 1, 0, 0, 0, 1, 0] [0, 1, 2, 3, 4, 5, 6, 7, 8] (by kernel_rfl) (by kernel_rfl) ?_
    repeat' (refine IsX ?_; first | (refine JX_nil ?_; refine At_np ?_) | (refine JX_op rfl ?_; refine XsO ?_; first | (refine XsG ?_; refine XG1 ?_) | (refine XsMove ?_; first | refine XM1 rfl ?_ | refine XM2 rfl ?_ | refine XM3 rfl ?_ | refine XM4 rfl ?_ | refine XM5 rfl (fun _ => ?_) (fun _ => ?_) | refine XM6 rfl (fun _ => ?_) (fun _ => ?_)) | (refine XsBin ?_; first | refine XB1 rfl rfl ?_ | refine XB2 rfl rfl ?_ | refine XB3 rfl rfl ?_ | refine XB4 rfl rfl ?_ | refine XB5 rfl rfl ?_ | refine XB6 rfl rfl ?_ | refine XB7 rfl rfl ?_ | refine XB8 rfl rfl ?_ | refine XB9 rfl rfl ?_ | refine XBA rfl rfl ?_) | (refine XsConv ?_; refine XC1 rfl ?_) | (refine XsLoad ?_; first | refine XL1k rfl ?_ | refine XL2k rfl ?_ | refine XL1 rfl ?_ | refine XL2 rfl ?_) | (refine XsStore ?_; refine XS1 rfl rfl (fun _ => ?_)) | (refine XsBox ?_; refine XN1 rfl (fun _ => ?_)) | (refine XsAlloc ?_; refine XN2 (fun _ => ?_)) | (refine XsBuild ?_; refine XU1 ?_) | refine XV1 ?_))
    refine JX_val rfl rfl (OV_idx (off := o1 + i) rfl rfl rfl rfl (by omega) (by omega) (by simp)) rfl rfl ?_
    refine JX_q rfl rfl (OQ_read (v := .int .i64 x) hR1 hm1 rfl rfl (by omega) (by simp [intsV, hx])) rfl rfl ?_
    repeat' (refine IsX ?_; first | (refine JX_nil ?_; refine At_np ?_) | (refine JX_op rfl ?_; refine XsO ?_; first | (refine XsG ?_; refine XG1 ?_) | (refine XsMove ?_; first | refine XM1 rfl ?_ | refine XM2 rfl ?_ | refine XM3 rfl ?_ | refine XM4 rfl ?_ | refine XM5 rfl (fun _ => ?_) (fun _ => ?_) | refine XM6 rfl (fun _ => ?_) (fun _ => ?_)) | (refine XsBin ?_; first | refine XB1 rfl rfl ?_ | refine XB2 rfl rfl ?_ | refine XB3 rfl rfl ?_ | refine XB4 rfl rfl ?_ | refine XB5 rfl rfl ?_ | refine XB6 rfl rfl ?_ | refine XB7 rfl rfl ?_ | refine XB8 rfl rfl ?_ | refine XB9 rfl rfl ?_ | refine XBA rfl rfl ?_) | (refine XsConv ?_; refine XC1 rfl ?_) | (refine XsLoad ?_; first | refine XL1k rfl ?_ | refine XL2k rfl ?_ | refine XL1 rfl ?_ | refine XL2 rfl ?_) | (refine XsStore ?_; refine XS1 rfl rfl (fun _ => ?_)) | (refine XsBox ?_; refine XN1 rfl (fun _ => ?_)) | (refine XsAlloc ?_; refine XN2 (fun _ => ?_)) | (refine XsBuild ?_; refine XU1 ?_) | refine XV1 ?_))
    refine JX_val rfl rfl (OV_idx (off := o2 + i) rfl rfl rfl rfl (by omega) (by omega) (by simp)) rfl rfl ?_
    refine JX_q rfl rfl (OQ_read (v := .int .i64 y) hR2 hm2 rfl rfl (by omega) (by simp [intsV, hy])) rfl rfl ?_
    repeat' (refine IsX ?_; first | (refine JX_nil ?_; refine At_np ?_) | (refine JX_op rfl ?_; refine XsO ?_; first | (refine XsG ?_; refine XG1 ?_) | (refine XsMove ?_; first | refine XM1 rfl ?_ | refine XM2 rfl ?_ | refine XM3 rfl ?_ | refine XM4 rfl ?_ | refine XM5 rfl (fun _ => ?_) (fun _ => ?_) | refine XM6 rfl (fun _ => ?_) (fun _ => ?_)) | (refine XsBin ?_; first | refine XB1 rfl rfl ?_ | refine XB2 rfl rfl ?_ | refine XB3 rfl rfl ?_ | refine XB4 rfl rfl ?_ | refine XB5 rfl rfl ?_ | refine XB6 rfl rfl ?_ | refine XB7 rfl rfl ?_ | refine XB8 rfl rfl ?_ | refine XB9 rfl rfl ?_ | refine XBA rfl rfl ?_) | (refine XsConv ?_; refine XC1 rfl ?_) | (refine XsLoad ?_; first | refine XL1k rfl ?_ | refine XL2k rfl ?_ | refine XL1 rfl ?_ | refine XL2 rfl ?_) | (refine XsStore ?_; refine XS1 rfl rfl (fun _ => ?_)) | (refine XsBox ?_; refine XN1 rfl (fun _ => ?_)) | (refine XsAlloc ?_; refine XN2 (fun _ => ?_)) | (refine XsBuild ?_; refine XU1 ?_) | refine XV1 ?_))
    repeat' (first | (refine IsO ?_; first | refine JO_nil ?_ | (refine IsG ?_; first | refine G1 ?_ | refine G2 ?_) | (refine IsMove ?_; first | refine M1 rfl ?_ | refine M2 rfl ?_ | refine M3 rfl ?_ | refine M4 rfl ?_ | refine M5 rfl (fun _ => ?_) (fun _ => ?_) | refine M6 rfl (fun _ => ?_) (fun _ => ?_)) | (refine IsBin ?_; first | refine B1 rfl rfl ?_ | refine B2 rfl rfl ?_ | refine B3 rfl rfl ?_ | refine B4 rfl rfl ?_ | refine B5 rfl rfl ?_ | refine B6 rfl rfl ?_ | refine B7 rfl rfl ?_ | refine B8 rfl rfl ?_ | refine B9 rfl rfl ?_ | refine BA rfl rfl ?_) | (refine IsConv ?_; refine C1 rfl ?_) | (refine IsLoad ?_; first | refine L1 rfl ?_ | refine L2 rfl ?_) | (refine IsStore ?_; refine S1 rfl rfl (fun _ => ?_)) | (refine IsBox ?_; refine N1 rfl (fun _ => ?_)) | (refine IsAlloc ?_; refine N2 (fun _ => ?_)) | (refine IsBuild ?_; refine U1 ?_) | refine V1 ?_) | (refine IsAt ?_; first | (with_reducible first | refine T1 ?_ | refine T2 ?_ | refine T3 ?_ | refine T4 ?_ | refine T5 ?_ | refine T6 ?_ | refine T7 ?_ | refine T8 ?_ | refine T9 ?_ | refine TA ?_ | refine TB ?_ | refine TC ?_) | ((with_reducible show At _ (PBlock _ _ (Exit.exit _)) _ _); first | refine At_block_hit ?_ | refine At_block_miss rfl ?_)) | (refine IsJ ?_; first | refine J_seq ?_ | refine J_region ?_ | refine J_block ?_ | refine J_skip ?_ | refine J_ret ?_ | refine J_exit ?_ | (refine IsCond ?_; first | refine J_cond_t rfl ?_ | refine J_cond_f rfl ?_ | refine K1 rfl ?_ | refine K2 rfl ?_ | refine K3 rfl ?_ | refine K4 rfl ?_ | refine J_cb rfl (fun _ => ?_) (fun _ => ?_) | refine J_nb rfl (fun _ => ?_) (fun _ => ?_))))
    · rename_i hxy
      refine At_ret' rfl rfl (.tmp rfl .nil) rfl (fun _ h => h) ⟨?_, rfl⟩
      rw [decide_eq_false (fun e => hxy (hnext.1 (by rw [e])))]; rfl
    · rename_i hxy
      exact At_round (i + 1) (by show xs.length - (i + 1) < xs.length - i; omega) ⟨by show i + 1 ≤ xs.length; omega, hnext.2 hxy⟩ (by repeat (first | exact True.intro | refine And.intro rfl ?_)) (fun H hl => hl)
  · have hii : i = xs.length := by omega
    subst hii
    have e : xs = ys := by
      have h3 := htk
      rw [List.take_length, heq', List.take_length] at h3
      exact h3
    exact At_ret' rfl rfl (.tmp rfl .nil) rfl (fun _ h => h) ⟨by rw [decide_eq_true e]; rfl, rfl⟩
end Go.Proofs.Ytiiefnnllcghmaa
