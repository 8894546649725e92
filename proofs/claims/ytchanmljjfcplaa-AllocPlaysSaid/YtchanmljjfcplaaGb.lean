/-
  Our own: the document's heaps (besomref01): Words, Check.
-/
import Derived.Test.YtchanmljjfcplaaJq
import Derived.Test.YtchanmljjfcplaaGa
set_option linter.unusedVariables false
set_option linter.unusedSimpArgs false
namespace Go.Proofs.Ytchanmljjfcplaa
open Go.Sep
section ops
variable {a : Option Addr} {cap : Nat} {os : List RO}
theorem take_ints {ws : List Int} {i k : Nat} {xs : List Int} (hk : xs.length = k) (h : ∀ j : Nat, j < k → ws[i + j]? = xs[j]?) : intsV (ws.take i) ++ intsV xs = intsV (ws.take (i + k)) := by
  rw [← List.map_append]
  congr 1
  apply List.ext_getElem?
  intro j
  by_cases h1 : j < i
  · rw [List.getElem?_take_of_lt (by omega)]
    by_cases h2 : j < ws.length
    · rw [List.getElem?_append_left (by simp; omega), List.getElem?_take_of_lt h1]
    · by_cases h3 : k = 0
      · obtain rfl : xs = [] := List.eq_nil_of_length_eq_zero (by omega)
        rw [List.append_nil, List.getElem?_take_of_lt h1]
      · have := h 0 (by omega)
        rw [List.getElem?_eq_none (by omega), List.getElem?_eq_getElem (by omega)] at this
        cases this
  · by_cases h3 : k = 0
    · obtain rfl : xs = [] := List.eq_nil_of_length_eq_zero (by omega)
      rw [List.append_nil, h3, Nat.add_zero]
    · have hil : i + k ≤ ws.length := by
        have := h (k - 1) (by omega)
        rw [List.getElem?_eq_getElem (show k - 1 < xs.length by omega)] at this
        have := (List.getElem?_eq_some_iff.1 this).1
        omega
      rw [List.getElem?_append_right (by simp; omega), List.length_take, Nat.min_eq_left (by omega)]
      by_cases h4 : j < i + k
      · rw [List.getElem?_take_of_lt h4, ← h (j - i) (by omega), show i + (j - i) = j by omega]
      · rw [List.getElem?_eq_none (by omega), List.getElem?_eq_none (by simp; omega)]
theorem objs_head {os : List RO} {j : Nat} {o : RO} (h : os[j]? = some o) : takeL (os.flatMap cellsO) (j * 5 + 1) 3 = some [.int .i64 o.k, .int .i64 o.ws.length, .int .i64 o.p] := by
  have hj := (List.getElem?_eq_some_iff.1 h).1
  rw [takeL_eq (by rw [objs_len]; omega)]
  congr 1
  apply List.ext_getElem?
  intro r
  by_cases hr : r < 3
  · rw [List.getElem?_take_of_lt hr, List.getElem?_drop, show j * 5 + 1 + r = j * 5 + (1 + r) by omega, objs_get h (by omega)]
    match r, hr with
    | 0, _ => rfl
    | 1, _ => rfl
    | 2, _ => rfl
  · rw [List.getElem?_eq_none (by simp; omega), List.getElem?_eq_none (by simp; omega)]
set_option maxHeartbeats 8000000 in
theorem Words_ref {ws : List Int} {T : Nat} (size : Int) (h : Ch ws 0 os T) (hT : T ≤ 65536) (hwl : T ≤ ws.length) : Does Try.prog 72 [refV size a os.length cap] (refL a cap os)
    (fun v l => ∃ a' cap', (a' = none → T = 0 ∧ cap' = 0) ∧ v = .slice a' T cap' ∧ l = rowz 3 1 a' T cap' (intsV (ws.take T)) :: refL a cap os) := by
  have hlen := h.len
  refine Does.of tiok Try.func72 (by kernel_rfl) rfl Try.ntmps72 rfl ?_
  intro W fr
  refine J_rowzf P0 ?_
  rintro ⟨hl, hn, hc⟩
  have hR : Reads (objsZ a cap os) 5 os.length a cap (os.flatMap cellsO) := Reads.rowz hl hn
  refine J_fact _ (fun w hs => RW_ok hs (.tail _ (.head _))) (fun ok => ?_)
  repeat' (first | (refine IsO ?_; first | refine JO_nil ?_ | (refine IsG ?_; first | refine G1 rfl rfl ?_ | refine G2 rfl ?_) | (refine IsMove ?_; first | refine M1 rfl rfl rfl ?_ | refine M2 rfl rfl rfl ?_ | refine M3 rfl rfl rfl ?_ | refine M4 rfl rfl rfl ?_ | refine M5 rfl rfl rfl (fun _ => ?_) (fun _ => ?_) | refine M6 rfl rfl rfl (fun _ => ?_) (fun _ => ?_)) | (refine IsBin ?_; first | refine B1 rfl rfl rfl rfl ?_ | refine B2 rfl rfl rfl rfl ?_ | refine B3 rfl rfl rfl rfl ?_ | refine B4 rfl rfl rfl rfl ?_ | refine B5 rfl rfl rfl rfl ?_ | refine B6 rfl rfl rfl rfl ?_ | refine B7 rfl rfl rfl rfl rfl ?_ | refine B8 rfl rfl rfl rfl rfl ?_ | refine B9 rfl rfl rfl rfl rfl rfl rfl ?_ | refine BA rfl rfl rfl rfl rfl rfl rfl ?_) | (refine IsConv ?_; refine C1 rfl rfl rfl rfl rfl ?_) | (refine IsLoad ?_; first | refine L1 rfl rfl rfl rfl ?_ | refine L2 rfl rfl rfl rfl rfl ?_) | (refine IsStore ?_; refine S1 rfl rfl rfl rfl rfl rfl rfl (fun _ => ?_)) | (refine IsBox ?_; refine N1 rfl rfl rfl rfl (fun _ => ?_)) | (refine IsAlloc ?_; refine N2 rfl rfl rfl rfl (fun _ => ?_)) | (refine IsBuild ?_; refine U1 rfl rfl rfl rfl rfl rfl ?_) | refine V1 rfl rfl rfl ?_) | (refine IsAt ?_; first | (with_reducible first | refine T1 ?_ | refine T2 ?_ | refine T3 ?_ | refine T4 ?_ | refine T5 ?_ | refine T6 ?_ | refine T7 ?_ | refine T8 ?_ | refine T9 ?_ | refine TA ?_ | refine TB ?_ | refine TC ?_) | ((with_reducible show At _ (PBlock _ _ (Exit.exit _)) _ _); first | refine At_block_hit ?_ | refine At_block_miss rfl ?_)) | (refine IsJ ?_; first | refine J_seq ?_ | refine J_region ?_ | refine J_block ?_ | refine J_skip ?_ | refine J_ret ?_ | refine J_exit ?_ | (refine IsCond ?_; first | refine J_cond_t rfl ?_ | refine J_cond_f rfl ?_ | refine K1 rfl ?_ | refine K2 rfl ?_ | refine K3 rfl ?_ | refine K4 rfl ?_ | refine J_cb rfl (fun _ => ?_) (fun _ => ?_) | refine J_nb rfl (fun _ => ?_) (fun _ => ?_))))
  rename_i bx
  refine J_loop (α := Nat × Option Addr × Nat) (fun x => x.1 ≤ os.length)
    (fun x => [(1, ptr bx 0), (3, .slice x.2.1 (posAt os T x.1) x.2.2), (7, .int .i64 os.length), (8, .int .i64 x.1)])
    (fun x => blk bx [.int .i64 size, .slice a os.length cap] 33 :: rowz 3 1 x.2.1 (posAt os T x.1) x.2.2 (intsV (ws.take (posAt os T x.1))) :: refL a cap os) (fun x => os.length - x.1) (0, none, 0) (Nat.zero_le _) ?_ ?_ ?_
  · simp only [h.pos0]; exact (by repeat (first | exact True.intro | refine And.intro rfl ?_))
  · intro H hl
    simp only [h.pos0]
    exact (rowz_nil hl).swap
  rintro ⟨q, oa, oc⟩ hq
  have hpb := h.pos_le q
  dsimp only at hq ⊢
  repeat' (first | (refine IsO ?_; first | refine JO_nil ?_ | (refine IsG ?_; first | refine G1 rfl rfl ?_ | refine G2 rfl ?_) | (refine IsMove ?_; first | refine M1 rfl rfl rfl ?_ | refine M2 rfl rfl rfl ?_ | refine M3 rfl rfl rfl ?_ | refine M4 rfl rfl rfl ?_ | refine M5 rfl rfl rfl (fun _ => ?_) (fun _ => ?_) | refine M6 rfl rfl rfl (fun _ => ?_) (fun _ => ?_)) | (refine IsBin ?_; first | refine B1 rfl rfl rfl rfl ?_ | refine B2 rfl rfl rfl rfl ?_ | refine B3 rfl rfl rfl rfl ?_ | refine B4 rfl rfl rfl rfl ?_ | refine B5 rfl rfl rfl rfl ?_ | refine B6 rfl rfl rfl rfl ?_ | refine B7 rfl rfl rfl rfl rfl ?_ | refine B8 rfl rfl rfl rfl rfl ?_ | refine B9 rfl rfl rfl rfl rfl rfl rfl ?_ | refine BA rfl rfl rfl rfl rfl rfl rfl ?_) | (refine IsConv ?_; refine C1 rfl rfl rfl rfl rfl ?_) | (refine IsLoad ?_; first | refine L1 rfl rfl rfl rfl ?_ | refine L2 rfl rfl rfl rfl rfl ?_) | (refine IsStore ?_; refine S1 rfl rfl rfl rfl rfl rfl rfl (fun _ => ?_)) | (refine IsBox ?_; refine N1 rfl rfl rfl rfl (fun _ => ?_)) | (refine IsAlloc ?_; refine N2 rfl rfl rfl rfl (fun _ => ?_)) | (refine IsBuild ?_; refine U1 rfl rfl rfl rfl rfl rfl ?_) | refine V1 rfl rfl rfl ?_) | (refine IsAt ?_; first | (with_reducible first | refine T1 ?_ | refine T2 ?_ | refine T3 ?_ | refine T4 ?_ | refine T5 ?_ | refine T6 ?_ | refine T7 ?_ | refine T8 ?_ | refine T9 ?_ | refine TA ?_ | refine TB ?_ | refine TC ?_) | ((with_reducible show At _ (PBlock _ _ (Exit.exit _)) _ _); first | refine At_block_hit ?_ | refine At_block_miss rfl ?_)) | (refine IsJ ?_; first | refine J_seq ?_ | refine J_region ?_ | refine J_block ?_ | refine J_skip ?_ | refine J_ret ?_ | refine J_exit ?_ | (refine IsCond ?_; first | refine J_cond_t rfl ?_ | refine J_cond_f rfl ?_ | refine K1 rfl ?_ | refine K2 rfl ?_ | refine K3 rfl ?_ | refine K4 rfl ?_ | refine J_cb rfl (fun _ => ?_) (fun _ => ?_) | refine J_nb rfl (fun _ => ?_) (fun _ => ?_))))
  · rename_i hlt
    have hlt' : q < os.length := by omega
    obtain ⟨o, ho⟩ : ∃ o, os[q]? = some o := ⟨os[q], List.getElem?_eq_getElem _⟩
    have hp := posAt_of (T := T) ho
    have hp2 := h.pos ho
    obtain ⟨k1, k2, k3, k4, k5⟩ := (h.at ho).2
    have hle : o.i + 1 + o.ws.length ≤ T := k5.le
    rw [hp]
    refine J_fact _ (fun w hs => hR.some (by omega) hs (.tail _ (.tail _ (.head _)))) ?_
    rintro ⟨b, of, rfl⟩
    refine J_drawk [blk bx [.int .i64 size, .slice (some ⟨b, of, none⟩) os.length cap] 33, objsZ (some ⟨b, of, none⟩) cap os] (fun H hl => hl.pick (is := [0, 1]) rfl) [0, 0, 5, 0, 0, 0, 5, 2, 2, 2, 0, 5, 0, 0, 0, 5, 2, 0] [0, 1, 2, 3, 4, 5, 6, 10, 11, 12, 13, 14, 15, 7, 8, 9, 16, 17] (by kernel_rfl) (by kernel_rfl) ?_
    repeat' (refine IsX ?_; first | (refine JX_nil ?_; refine At_np ?_) | (refine JX_op rfl ?_; refine XsO ?_; first | (refine XsG ?_; refine XG1 rfl rfl rfl ?_) | (refine XsMove ?_; first | refine XM1 rfl rfl rfl rfl ?_ | refine XM2 rfl rfl rfl rfl ?_ | refine XM3 rfl rfl rfl rfl ?_ | refine XM4 rfl rfl rfl rfl ?_ | refine XM5 rfl rfl rfl rfl (fun _ => ?_) (fun _ => ?_) | refine XM6 rfl rfl rfl rfl (fun _ => ?_) (fun _ => ?_)) | (refine XsBin ?_; first | refine XB1 rfl rfl rfl rfl rfl ?_ | refine XB2 rfl rfl rfl rfl rfl ?_ | refine XB3 rfl rfl rfl rfl rfl ?_ | refine XB4 rfl rfl rfl rfl rfl ?_ | refine XB5 rfl rfl rfl rfl rfl ?_ | refine XB6 rfl rfl rfl rfl rfl ?_ | refine XB7 rfl rfl rfl rfl rfl rfl ?_ | refine XB8 rfl rfl rfl rfl rfl rfl ?_ | refine XB9 rfl rfl rfl rfl rfl rfl rfl rfl ?_ | refine XBA rfl rfl rfl rfl rfl rfl rfl rfl ?_) | (refine XsConv ?_; refine XC1 rfl rfl rfl rfl rfl rfl ?_) | (refine XsLoad ?_; first | refine XL1k rfl rfl rfl rfl rfl ?_ | refine XL2k rfl rfl rfl rfl rfl rfl ?_ | refine XL1 rfl rfl rfl rfl rfl ?_ | refine XL2 rfl rfl rfl rfl rfl rfl ?_) | (refine XsStore ?_; refine XS1 rfl rfl rfl rfl rfl rfl rfl rfl (fun _ => ?_)) | (refine XsBox ?_; refine XN1 rfl rfl rfl rfl rfl (fun _ => ?_)) | (refine XsAlloc ?_; refine XN2 rfl rfl rfl rfl rfl (fun _ => ?_)) | (refine XsBuild ?_; refine XU1 rfl rfl rfl rfl rfl rfl rfl ?_) | refine XV1 rfl rfl rfl rfl ?_))
    refine JX_val rfl rfl (OV_idx (off := of + q * 5) rfl rfl rfl rfl (by omega) (by omega) (by simp)) rfl rfl ?_
    repeat' (refine IsX ?_; first | (refine JX_nil ?_; refine At_np ?_) | (refine JX_op rfl ?_; refine XsO ?_; first | (refine XsG ?_; refine XG1 rfl rfl rfl ?_) | (refine XsMove ?_; first | refine XM1 rfl rfl rfl rfl ?_ | refine XM2 rfl rfl rfl rfl ?_ | refine XM3 rfl rfl rfl rfl ?_ | refine XM4 rfl rfl rfl rfl ?_ | refine XM5 rfl rfl rfl rfl (fun _ => ?_) (fun _ => ?_) | refine XM6 rfl rfl rfl rfl (fun _ => ?_) (fun _ => ?_)) | (refine XsBin ?_; first | refine XB1 rfl rfl rfl rfl rfl ?_ | refine XB2 rfl rfl rfl rfl rfl ?_ | refine XB3 rfl rfl rfl rfl rfl ?_ | refine XB4 rfl rfl rfl rfl rfl ?_ | refine XB5 rfl rfl rfl rfl rfl ?_ | refine XB6 rfl rfl rfl rfl rfl ?_ | refine XB7 rfl rfl rfl rfl rfl rfl ?_ | refine XB8 rfl rfl rfl rfl rfl rfl ?_ | refine XB9 rfl rfl rfl rfl rfl rfl rfl rfl ?_ | refine XBA rfl rfl rfl rfl rfl rfl rfl rfl ?_) | (refine XsConv ?_; refine XC1 rfl rfl rfl rfl rfl rfl ?_) | (refine XsLoad ?_; first | refine XL1k rfl rfl rfl rfl rfl ?_ | refine XL2k rfl rfl rfl rfl rfl rfl ?_ | refine XL1 rfl rfl rfl rfl rfl ?_ | refine XL2 rfl rfl rfl rfl rfl rfl ?_) | (refine XsStore ?_; refine XS1 rfl rfl rfl rfl rfl rfl rfl rfl (fun _ => ?_)) | (refine XsBox ?_; refine XN1 rfl rfl rfl rfl rfl (fun _ => ?_)) | (refine XsAlloc ?_; refine XN2 rfl rfl rfl rfl rfl (fun _ => ?_)) | (refine XsBuild ?_; refine XU1 rfl rfl rfl rfl rfl rfl rfl ?_) | refine XV1 rfl rfl rfl rfl ?_))
    refine JX_kept rfl rfl (OK_readA (i := q * 5 + 1) (vs := [.int .i64 o.k, .int .i64 o.ws.length, .int .i64 o.p]) hR (by repeat (first | exact .head _ | refine .tail _ ?_)) rfl rfl rfl (by omega) (objs_head ho)) rfl rfl ?_
    repeat' (refine IsX ?_; first | (refine JX_nil ?_; refine At_np ?_) | (refine JX_op rfl ?_; refine XsO ?_; first | (refine XsG ?_; refine XG1 rfl rfl rfl ?_) | (refine XsMove ?_; first | refine XM1 rfl rfl rfl rfl ?_ | refine XM2 rfl rfl rfl rfl ?_ | refine XM3 rfl rfl rfl rfl ?_ | refine XM4 rfl rfl rfl rfl ?_ | refine XM5 rfl rfl rfl rfl (fun _ => ?_) (fun _ => ?_) | refine XM6 rfl rfl rfl rfl (fun _ => ?_) (fun _ => ?_)) | (refine XsBin ?_; first | refine XB1 rfl rfl rfl rfl rfl ?_ | refine XB2 rfl rfl rfl rfl rfl ?_ | refine XB3 rfl rfl rfl rfl rfl ?_ | refine XB4 rfl rfl rfl rfl rfl ?_ | refine XB5 rfl rfl rfl rfl rfl ?_ | refine XB6 rfl rfl rfl rfl rfl ?_ | refine XB7 rfl rfl rfl rfl rfl rfl ?_ | refine XB8 rfl rfl rfl rfl rfl rfl ?_ | refine XB9 rfl rfl rfl rfl rfl rfl rfl rfl ?_ | refine XBA rfl rfl rfl rfl rfl rfl rfl rfl ?_) | (refine XsConv ?_; refine XC1 rfl rfl rfl rfl rfl rfl ?_) | (refine XsLoad ?_; first | refine XL1k rfl rfl rfl rfl rfl ?_ | refine XL2k rfl rfl rfl rfl rfl rfl ?_ | refine XL1 rfl rfl rfl rfl rfl ?_ | refine XL2 rfl rfl rfl rfl rfl rfl ?_) | (refine XsStore ?_; refine XS1 rfl rfl rfl rfl rfl rfl rfl rfl (fun _ => ?_)) | (refine XsBox ?_; refine XN1 rfl rfl rfl rfl rfl (fun _ => ?_)) | (refine XsAlloc ?_; refine XN2 rfl rfl rfl rfl rfl (fun _ => ?_)) | (refine XsBuild ?_; refine XU1 rfl rfl rfl rfl rfl rfl rfl ?_) | refine XV1 rfl rfl rfl rfl ?_))
    refine JX_val rfl rfl (OV_idx (off := of + q * 5) rfl rfl rfl rfl (by omega) (by omega) (by simp)) rfl rfl ?_
    repeat' (refine IsX ?_; first | (refine JX_nil ?_; refine At_np ?_) | (refine JX_op rfl ?_; refine XsO ?_; first | (refine XsG ?_; refine XG1 rfl rfl rfl ?_) | (refine XsMove ?_; first | refine XM1 rfl rfl rfl rfl ?_ | refine XM2 rfl rfl rfl rfl ?_ | refine XM3 rfl rfl rfl rfl ?_ | refine XM4 rfl rfl rfl rfl ?_ | refine XM5 rfl rfl rfl rfl (fun _ => ?_) (fun _ => ?_) | refine XM6 rfl rfl rfl rfl (fun _ => ?_) (fun _ => ?_)) | (refine XsBin ?_; first | refine XB1 rfl rfl rfl rfl rfl ?_ | refine XB2 rfl rfl rfl rfl rfl ?_ | refine XB3 rfl rfl rfl rfl rfl ?_ | refine XB4 rfl rfl rfl rfl rfl ?_ | refine XB5 rfl rfl rfl rfl rfl ?_ | refine XB6 rfl rfl rfl rfl rfl ?_ | refine XB7 rfl rfl rfl rfl rfl rfl ?_ | refine XB8 rfl rfl rfl rfl rfl rfl ?_ | refine XB9 rfl rfl rfl rfl rfl rfl rfl rfl ?_ | refine XBA rfl rfl rfl rfl rfl rfl rfl rfl ?_) | (refine XsConv ?_; refine XC1 rfl rfl rfl rfl rfl rfl ?_) | (refine XsLoad ?_; first | refine XL1k rfl rfl rfl rfl rfl ?_ | refine XL2k rfl rfl rfl rfl rfl rfl ?_ | refine XL1 rfl rfl rfl rfl rfl ?_ | refine XL2 rfl rfl rfl rfl rfl rfl ?_) | (refine XsStore ?_; refine XS1 rfl rfl rfl rfl rfl rfl rfl rfl (fun _ => ?_)) | (refine XsBox ?_; refine XN1 rfl rfl rfl rfl rfl (fun _ => ?_)) | (refine XsAlloc ?_; refine XN2 rfl rfl rfl rfl rfl (fun _ => ?_)) | (refine XsBuild ?_; refine XU1 rfl rfl rfl rfl rfl rfl rfl ?_) | refine XV1 rfl rfl rfl rfl ?_))
    refine JX_kept rfl rfl (OK_read (i := q * 5 + 4) (v := .slice o.wa o.ws.length o.wc) hR (by repeat (first | exact .head _ | refine .tail _ ?_)) rfl rfl (by omega) (by rw [objs_get ho (by omega)]; rfl)) rfl rfl ?_
    repeat' (refine IsX ?_; first | (refine JX_nil ?_; refine At_np ?_) | (refine JX_op rfl ?_; refine XsO ?_; first | (refine XsG ?_; refine XG1 rfl rfl rfl ?_) | (refine XsMove ?_; first | refine XM1 rfl rfl rfl rfl ?_ | refine XM2 rfl rfl rfl rfl ?_ | refine XM3 rfl rfl rfl rfl ?_ | refine XM4 rfl rfl rfl rfl ?_ | refine XM5 rfl rfl rfl rfl (fun _ => ?_) (fun _ => ?_) | refine XM6 rfl rfl rfl rfl (fun _ => ?_) (fun _ => ?_)) | (refine XsBin ?_; first | refine XB1 rfl rfl rfl rfl rfl ?_ | refine XB2 rfl rfl rfl rfl rfl ?_ | refine XB3 rfl rfl rfl rfl rfl ?_ | refine XB4 rfl rfl rfl rfl rfl ?_ | refine XB5 rfl rfl rfl rfl rfl ?_ | refine XB6 rfl rfl rfl rfl rfl ?_ | refine XB7 rfl rfl rfl rfl rfl rfl ?_ | refine XB8 rfl rfl rfl rfl rfl rfl ?_ | refine XB9 rfl rfl rfl rfl rfl rfl rfl rfl ?_ | refine XBA rfl rfl rfl rfl rfl rfl rfl rfl ?_) | (refine XsConv ?_; refine XC1 rfl rfl rfl rfl rfl rfl ?_) | (refine XsLoad ?_; first | refine XL1k rfl rfl rfl rfl rfl ?_ | refine XL2k rfl rfl rfl rfl rfl rfl ?_ | refine XL1 rfl rfl rfl rfl rfl ?_ | refine XL2 rfl rfl rfl rfl rfl rfl ?_) | (refine XsStore ?_; refine XS1 rfl rfl rfl rfl rfl rfl rfl rfl (fun _ => ?_)) | (refine XsBox ?_; refine XN1 rfl rfl rfl rfl rfl (fun _ => ?_)) | (refine XsAlloc ?_; refine XN2 rfl rfl rfl rfl rfl (fun _ => ?_)) | (refine XsBuild ?_; refine XU1 rfl rfl rfl rfl rfl rfl rfl ?_) | refine XV1 rfl rfl rfl rfl ?_))
    refine JX_lk rfl rfl (OL_call [] rfl rfl rfl (refPack_spec _ _ _ k2) rfl) rfl rfl ?_ ?_
    · rintro _ _ ⟨_, ⟨rfl, rfl⟩, rfl⟩ H hl
      exact hl.pick (is := [0, 1]) rfl
    rintro _ _ ⟨_, ⟨rfl, rfl⟩, rfl⟩ _
    repeat' (refine IsX ?_; first | (refine JX_nil ?_; refine At_np ?_) | (refine JX_op rfl ?_; refine XsO ?_; first | (refine XsG ?_; refine XG1 rfl rfl rfl ?_) | (refine XsMove ?_; first | refine XM1 rfl rfl rfl rfl ?_ | refine XM2 rfl rfl rfl rfl ?_ | refine XM3 rfl rfl rfl rfl ?_ | refine XM4 rfl rfl rfl rfl ?_ | refine XM5 rfl rfl rfl rfl (fun _ => ?_) (fun _ => ?_) | refine XM6 rfl rfl rfl rfl (fun _ => ?_) (fun _ => ?_)) | (refine XsBin ?_; first | refine XB1 rfl rfl rfl rfl rfl ?_ | refine XB2 rfl rfl rfl rfl rfl ?_ | refine XB3 rfl rfl rfl rfl rfl ?_ | refine XB4 rfl rfl rfl rfl rfl ?_ | refine XB5 rfl rfl rfl rfl rfl ?_ | refine XB6 rfl rfl rfl rfl rfl ?_ | refine XB7 rfl rfl rfl rfl rfl rfl ?_ | refine XB8 rfl rfl rfl rfl rfl rfl ?_ | refine XB9 rfl rfl rfl rfl rfl rfl rfl rfl ?_ | refine XBA rfl rfl rfl rfl rfl rfl rfl rfl ?_) | (refine XsConv ?_; refine XC1 rfl rfl rfl rfl rfl rfl ?_) | (refine XsLoad ?_; first | refine XL1k rfl rfl rfl rfl rfl ?_ | refine XL2k rfl rfl rfl rfl rfl rfl ?_ | refine XL1 rfl rfl rfl rfl rfl ?_ | refine XL2 rfl rfl rfl rfl rfl rfl ?_) | (refine XsStore ?_; refine XS1 rfl rfl rfl rfl rfl rfl rfl rfl (fun _ => ?_)) | (refine XsBox ?_; refine XN1 rfl rfl rfl rfl rfl (fun _ => ?_)) | (refine XsAlloc ?_; refine XN2 rfl rfl rfl rfl rfl (fun _ => ?_)) | (refine XsBuild ?_; refine XU1 rfl rfl rfl rfl rfl rfl rfl ?_) | refine XV1 rfl rfl rfl rfl ?_))
    refine JX_lk rfl rfl (OL_buildSlice (cs := [.int .i64 (packI o.k o.ws.length o.p)]) rfl rfl rfl rfl rfl rfl rfl rfl) rfl rfl ?_ ?_
    · rintro _ _ ⟨_, rfl, rfl⟩ H hl
      exact hl.pick (is := [1, 2]) rfl
    rintro _ _ ⟨b1, rfl, rfl⟩ _
    refine JX_lk rfl rfl (OL_appendr (m := 1) rfl rfl rfl rfl rfl P2 ((Reads.blk rfl).src (.head _)) rfl rfl (fun _ h => by cases h) (by omega) (by omega) (by decide)) rfl rfl ?_ ?_
    · rintro _ _ ⟨a1, c1, rfl, rfl⟩ H hl
      exact hl.pick (is := [2, 2]) rfl
    rintro _ _ ⟨a1, c1, rfl, rfl⟩ _
    refine JX_lk rfl rfl (OL_appendr (m := o.ws.length) rfl rfl rfl rfl rfl P0 ((RW.reads (List.mem_of_getElem? ho) ok).src (by repeat (first | exact .head _ | refine .tail _ ?_))) (plainL_ints _) rfl (fun _ h => by cases h) (by omega) (by omega) (by decide)) rfl rfl ?_ ?_
    · rintro _ _ ⟨a2, c2, rfl, rfl⟩ H hl
      exact hl.pick (is := [2, 2]) rfl
    rintro _ _ ⟨a2, c2, rfl, rfl⟩ _
    repeat' (refine IsX ?_; first | (refine JX_nil ?_; refine At_np ?_) | (refine JX_op rfl ?_; refine XsO ?_; first | (refine XsG ?_; refine XG1 rfl rfl rfl ?_) | (refine XsMove ?_; first | refine XM1 rfl rfl rfl rfl ?_ | refine XM2 rfl rfl rfl rfl ?_ | refine XM3 rfl rfl rfl rfl ?_ | refine XM4 rfl rfl rfl rfl ?_ | refine XM5 rfl rfl rfl rfl (fun _ => ?_) (fun _ => ?_) | refine XM6 rfl rfl rfl rfl (fun _ => ?_) (fun _ => ?_)) | (refine XsBin ?_; first | refine XB1 rfl rfl rfl rfl rfl ?_ | refine XB2 rfl rfl rfl rfl rfl ?_ | refine XB3 rfl rfl rfl rfl rfl ?_ | refine XB4 rfl rfl rfl rfl rfl ?_ | refine XB5 rfl rfl rfl rfl rfl ?_ | refine XB6 rfl rfl rfl rfl rfl ?_ | refine XB7 rfl rfl rfl rfl rfl rfl ?_ | refine XB8 rfl rfl rfl rfl rfl rfl ?_ | refine XB9 rfl rfl rfl rfl rfl rfl rfl rfl ?_ | refine XBA rfl rfl rfl rfl rfl rfl rfl rfl ?_) | (refine XsConv ?_; refine XC1 rfl rfl rfl rfl rfl rfl ?_) | (refine XsLoad ?_; first | refine XL1k rfl rfl rfl rfl rfl ?_ | refine XL2k rfl rfl rfl rfl rfl rfl ?_ | refine XL1 rfl rfl rfl rfl rfl ?_ | refine XL2 rfl rfl rfl rfl rfl rfl ?_) | (refine XsStore ?_; refine XS1 rfl rfl rfl rfl rfl rfl rfl rfl (fun _ => ?_)) | (refine XsBox ?_; refine XN1 rfl rfl rfl rfl rfl (fun _ => ?_)) | (refine XsAlloc ?_; refine XN2 rfl rfl rfl rfl rfl (fun _ => ?_)) | (refine XsBuild ?_; refine XU1 rfl rfl rfl rfl rfl rfl rfl ?_) | refine XV1 rfl rfl rfl rfl ?_))
    repeat' (first | (refine IsO ?_; first | refine JO_nil ?_ | (refine IsG ?_; first | refine G1 rfl rfl ?_ | refine G2 rfl ?_) | (refine IsMove ?_; first | refine M1 rfl rfl rfl ?_ | refine M2 rfl rfl rfl ?_ | refine M3 rfl rfl rfl ?_ | refine M4 rfl rfl rfl ?_ | refine M5 rfl rfl rfl (fun _ => ?_) (fun _ => ?_) | refine M6 rfl rfl rfl (fun _ => ?_) (fun _ => ?_)) | (refine IsBin ?_; first | refine B1 rfl rfl rfl rfl ?_ | refine B2 rfl rfl rfl rfl ?_ | refine B3 rfl rfl rfl rfl ?_ | refine B4 rfl rfl rfl rfl ?_ | refine B5 rfl rfl rfl rfl ?_ | refine B6 rfl rfl rfl rfl ?_ | refine B7 rfl rfl rfl rfl rfl ?_ | refine B8 rfl rfl rfl rfl rfl ?_ | refine B9 rfl rfl rfl rfl rfl rfl rfl ?_ | refine BA rfl rfl rfl rfl rfl rfl rfl ?_) | (refine IsConv ?_; refine C1 rfl rfl rfl rfl rfl ?_) | (refine IsLoad ?_; first | refine L1 rfl rfl rfl rfl ?_ | refine L2 rfl rfl rfl rfl rfl ?_) | (refine IsStore ?_; refine S1 rfl rfl rfl rfl rfl rfl rfl (fun _ => ?_)) | (refine IsBox ?_; refine N1 rfl rfl rfl rfl (fun _ => ?_)) | (refine IsAlloc ?_; refine N2 rfl rfl rfl rfl (fun _ => ?_)) | (refine IsBuild ?_; refine U1 rfl rfl rfl rfl rfl rfl ?_) | refine V1 rfl rfl rfl ?_) | (refine IsAt ?_; first | (with_reducible first | refine T1 ?_ | refine T2 ?_ | refine T3 ?_ | refine T4 ?_ | refine T5 ?_ | refine T6 ?_ | refine T7 ?_ | refine T8 ?_ | refine T9 ?_ | refine TA ?_ | refine TB ?_ | refine TC ?_) | ((with_reducible show At _ (PBlock _ _ (Exit.exit _)) _ _); first | refine At_block_hit ?_ | refine At_block_miss rfl ?_)) | (refine IsJ ?_; first | refine J_seq ?_ | refine J_region ?_ | refine J_block ?_ | refine J_skip ?_ | refine J_ret ?_ | refine J_exit ?_ | (refine IsCond ?_; first | refine J_cond_t rfl ?_ | refine J_cond_f rfl ?_ | refine K1 rfl ?_ | refine K2 rfl ?_ | refine K3 rfl ?_ | refine K4 rfl ?_ | refine J_cb rfl (fun _ => ?_) (fun _ => ?_) | refine J_nb rfl (fun _ => ?_) (fun _ => ?_))))
    refine At_round (q + 1, a2, c2) (by show os.length - (q + 1) < os.length - q; omega) (show q + 1 ≤ os.length by omega) ?_ ?_
    · simp only [hp2]
      exact (by repeat (first | exact True.intro | refine And.intro rfl ?_))
    · intro H hl
      simp only [hp2]
      have e : intsV (ws.take (o.i + 1 + o.ws.length)) = intsV (ws.take o.i) ++ [.int .i64 (packI o.k o.ws.length o.p)] ++ intsV o.ws := by
        rw [show intsV (ws.take o.i) ++ [.int .i64 (packI o.k o.ws.length o.p)] = intsV (ws.take (o.i + 1)) from take_ints (xs := [packI o.k o.ws.length o.p]) rfl (fun j hj => by
          obtain rfl : j = 0 := by omega
          exact k3)]
        exact (take_ints rfl k4).symm
      rw [e]
      exact hl.pick (is := [2, 0, 1, 1]) rfl
  · have hqq : q = os.length := by omega
    subst hqq
    rw [posAt_end]
    refine At_fact _ (fun w hs => rowz_len hs (.tail _ (.head _))) ?_
    rintro ⟨_, hz, _⟩
    exact At_ret rfl rfl (.tmp rfl .nil) rfl (is := [1, 1, 1]) rfl ⟨oa, oc, hz, rfl, rfl⟩
end ops
end Go.Proofs.Ytchanmljjfcplaa
