/-
  Our own: what the claims of Zt share, 4 of 6: Srb Clt Sce Scf Jw Sca Ju Src Srd Swa Swb Sre Spa Spb Spc Spd Spe Spf Sga Swc Swd.
-/
import Derived.Test.YtahfnbpbdnmggaaZt3
import Derived.RangeFuncStops
import Derived.RangeFuncLeaves
import Derived.LoopNIn
import Derived.Laws.StructEq
import Derived.Tactics
import Derived.Laws.Slices
import Derived.Deep.Quiet
import Derived.IntWalk
import Derived.Shelf.Abstract
import Derived.Laws.Entries
import Derived.Laws.Rows
import Derived.Below
import Derived.TacticsIn
import Derived.OrdersIn
import Derived.KernelRfl
import Derived.Test.YtahfnbpbdnmggaaProg
import Derived.ChangeArms
import Derived.WalkKit
import Derived.ProofKit
import Derived.OpenShut
import Derived.ChangeOld
import Derived.SizedLaws
import Derived.Carry
import Derived.Lib.SmallJoins
import Derived.Laws.Shifts
import Derived.Laws.Bits64b
/-
  Our own: slider's right: all that stays leads to what stays alone.
-/
set_option linter.unusedVariables false
set_option linter.unusedSimpArgs false
namespace Go.Proofs.Ytahfnbpbdnmggaa
open Go.Sep
section ops
variable {pf p bw bs pm bm bst bf n T w nR : Nat} {ws : List Int} {st : List Bool} {os : List RO} {ms : List Nat} {rs : List RG} {fs : List Int}
set_option maxHeartbeats 16000000 in
theorem right_spec (h : HT n T ws st) (hc : Ch ws 0 os T) (hM : MI n ms) (hF : RF w nR (lvs ms os) rs fs) (hR : nR = numR w T) (hld : LeadP os) : Does Try.prog 38 [ptr p 0, ptr pf 0] (fwdL pf p bw bs pm bm bst bf n T w nR ws st ms rs fs)
    (fun v l => ∃ t : Bool, (t = true ↔ RightP ms os) ∧ v = .bool t ∧ l = fwdL pf p bw bs pm bm bst bf n T w nR ws st ms rs fs) := by
  have hwl := h.wl
  have htn := h.tn
  have hnb := h.nb
  refine Does.ofM tiok Try.func38 (by kernel_rfl) rfl Try.ntmps38 rfl ?_
  intro W fr
  repeat' (first | (refine IsO ?_; first | refine JO_nil ?_ | (refine IsBin ?_; refine B1 rfl rfl rfl rfl ?_) | (refine IsLoad ?_; refine L1 rfl rfl rfl rfl ?_) | (refine IsStore ?_; refine S1 rfl rfl rfl rfl rfl rfl rfl (fun _ => ?_)) | (refine IsBox ?_; refine N1 rfl rfl rfl rfl (fun _ => ?_)) | (refine IsAlloc ?_; refine N2 rfl rfl rfl rfl (fun _ => ?_)) | refine V1 rfl rfl rfl ?_) | (refine IsAt ?_; first | (with_reducible first | refine T1 ?_ | refine T2 ?_ | refine T3 ?_ | refine T4 ?_ | refine T5 ?_ | refine T6 ?_ | refine T7 ?_) | ((with_reducible show At _ (PBlock _ _ (Exit.exit _)) _ _); refine At_block_hit ?_)) | (refine IsJ ?_; first | refine J_seq ?_ | refine J_region ?_ | refine J_block ?_ | refine J_skip ?_ | refine J_ret ?_ | refine J_exit ?_ | (refine IsCond ?_; first | refine J_cond_t rfl ?_ | refine J_cond_f rfl ?_ | refine J_cb rfl (fun _ => ?_) (fun _ => ?_) | refine J_nb rfl (fun _ => ?_) (fun _ => ?_))))
  rename_i b2 b3 b4
  refine J_scope ?_
  refine J_seq ?_
  refine J_label ?_
  refine At_then_normal ?_
  repeat' (first | (refine IsO ?_; first | refine JO_nil ?_ | (refine IsBin ?_; refine B1 rfl rfl rfl rfl ?_) | (refine IsLoad ?_; refine L1 rfl rfl rfl rfl ?_) | (refine IsStore ?_; refine S1 rfl rfl rfl rfl rfl rfl rfl (fun _ => ?_)) | (refine IsBox ?_; refine N1 rfl rfl rfl rfl (fun _ => ?_)) | (refine IsAlloc ?_; refine N2 rfl rfl rfl rfl (fun _ => ?_)) | refine V1 rfl rfl rfl ?_) | (refine IsAt ?_; first | (with_reducible first | refine T1 ?_ | refine T2 ?_ | refine T3 ?_ | refine T4 ?_ | refine T5 ?_ | refine T6 ?_ | refine T7 ?_) | ((with_reducible show At _ (PBlock _ _ (Exit.exit _)) _ _); refine At_block_hit ?_)) | (refine IsJ ?_; first | refine J_seq ?_ | refine J_region ?_ | refine J_block ?_ | refine J_skip ?_ | refine J_ret ?_ | refine J_exit ?_ | (refine IsCond ?_; first | refine J_cond_t rfl ?_ | refine J_cond_f rfl ?_ | refine J_cb rfl (fun _ => ?_) (fun _ => ?_) | refine J_nb rfl (fun _ => ?_) (fun _ => ?_))))
  refine JO_l (OL_call [] rfl rfl rfl (Walk_spec) rfl) rfl rfl ?_; rintro _ _ ⟨_, ⟨bh, rfl, rfl⟩, rfl⟩
  repeat' (first | (refine IsO ?_; first | refine JO_nil ?_ | (refine IsBin ?_; refine B1 rfl rfl rfl rfl ?_) | (refine IsLoad ?_; refine L1 rfl rfl rfl rfl ?_) | (refine IsStore ?_; refine S1 rfl rfl rfl rfl rfl rfl rfl (fun _ => ?_)) | (refine IsBox ?_; refine N1 rfl rfl rfl rfl (fun _ => ?_)) | (refine IsAlloc ?_; refine N2 rfl rfl rfl rfl (fun _ => ?_)) | refine V1 rfl rfl rfl ?_) | (refine IsAt ?_; first | (with_reducible first | refine T1 ?_ | refine T2 ?_ | refine T3 ?_ | refine T4 ?_ | refine T5 ?_ | refine T6 ?_ | refine T7 ?_) | ((with_reducible show At _ (PBlock _ _ (Exit.exit _)) _ _); refine At_block_hit ?_)) | (refine IsJ ?_; first | refine J_seq ?_ | refine J_region ?_ | refine J_block ?_ | refine J_skip ?_ | refine J_ret ?_ | refine J_exit ?_ | (refine IsCond ?_; first | refine J_cond_t rfl ?_ | refine J_cond_f rfl ?_ | refine J_cb rfl (fun _ => ?_) (fun _ => ?_) | refine J_nb rfl (fun _ => ?_) (fun _ => ?_))))
  refine J_rangeFunc (ps := [16, 17]) rfl (fun k d R hrec => ?_)
  let rest : List HP := blk b3 [ptr pf 0] 93 :: blk b2 [ptr p 0] 29 :: blk pf (fwdV p pm w bst bf nR) 106 :: (marksL pm bm n ms ++ regL bst bf rs fs)
  let Y : Bool → List HP := fun t => bif t then [pt k (.loop (R .done (some .ret))), pt d (.deferred (some [])), blk b4 [.bool false] 4] ++ rest else [pt k (.loop (R .ready none)), pt d (.deferred (some [])), blk b4 [.bool false] 4] ++ rest
  let Inv : Nat → Bool → Prop := fun i t => t = false ∧ ∃ j, j ≤ os.length ∧ posAt os T j = i ∧ ∀ (j' : Nat) (o : RO), j' < j → os[j']? = some o → lvB ms o = true → ∀ (k : Nat) (w : Int), (k : Int) < o.p → o.ws[k]? = some w → w = 0 ∨ LiveAt ms os (w - 1)
  let Stop : Bool → Prop := fun t => t = true ∧ ¬ RightP ms os
  have hy : ∀ (i : Nat) (x : Int) (s : Bool), Inv i s → st[i]? = some true → ws[i]? = some x → wordB x = true → i + 1 + (unN x).toNat ≤ T →
      DoesV Try.prog (.func (.yield k) #[] #[]) [.int .i64 i, headV (unK x) (unN x) (unP x)] (heapL p bw bs n ws T st ++ Y s)
        (fun v l => (v = .bool true ∧ ∃ s', Inv (i + 1 + (unN x).toNat) s' ∧ l = heapL p bw bs n ws T st ++ Y s') ∨ (v = .bool false ∧ ∃ s', Stop s' ∧ l = heapL p bw bs n ws T st ++ Y s')) := by
    rintro i x s ⟨rfl, j, hj, hp, hI⟩ hs hx hg hle
    have hit := h.lt hs
    have hjl : j < os.length := by
      rcases Nat.lt_or_ge j os.length with e | e
      · exact e
      · obtain rfl : j = os.length := by omega
        rw [posAt_end] at hp; omega
    obtain ⟨o, ho⟩ : ∃ o, os[j]? = some o := ⟨os[j], List.getElem?_eq_getElem _⟩
    have hoi : o.i = i := by rw [← hp, posAt_of ho]
    have hpn := hc.pos ho
    have hat := (hc.at ho).2
    have hxo := hat.2.2.1
    have hob := hc.o_lt ho
    rw [hoi, hx] at hxo
    injection hxo with hxo
    obtain ⟨_, _, u1, u2, u3⟩ := packI_un hat.2.1
    rw [← hxo] at u1 u2 u3
    rw [hoi] at hpn hob
    rw [u1, u2, u3]
    have hle2 := hle
    rw [u2] at hle
    refine DoesV.pre (pre := pt k (.loop (R .ready none)) :: (heapL p bw bs n ws T st ++ ([pt d (.deferred (some [])), blk b4 [.bool false] 4] ++ rest))) ?_ (fun H hl => hl.perm (picks_perm (is := [3]) rfl))
    refine DoesV.yield hrec rfl (by decide) ?_
    intro W fr
    refine J_regs (g' := [(2, ptr b2 0), (3, ptr b3 0), (4, ptr b4 0), (16, .int .i64 i), (17, headV o.k o.ws.length o.p)]) (by repeat (first | exact True.intro | refine And.intro rfl ?_)) ?_
    repeat' (first | (refine IsO ?_; first | refine JO_nil ?_ | (refine IsBin ?_; refine B1 rfl rfl rfl rfl ?_) | (refine IsLoad ?_; refine L1 rfl rfl rfl rfl ?_) | (refine IsStore ?_; refine S1 rfl rfl rfl rfl rfl rfl rfl (fun _ => ?_)) | (refine IsBox ?_; refine N1 rfl rfl rfl rfl (fun _ => ?_)) | (refine IsAlloc ?_; refine N2 rfl rfl rfl rfl (fun _ => ?_)) | refine V1 rfl rfl rfl ?_) | (refine IsAt ?_; first | (with_reducible first | refine T1 ?_ | refine T2 ?_ | refine T3 ?_ | refine T4 ?_ | refine T5 ?_ | refine T6 ?_ | refine T7 ?_) | ((with_reducible show At _ (PBlock _ _ (Exit.exit _)) _ _); refine At_block_hit ?_)) | (refine IsJ ?_; first | refine J_seq ?_ | refine J_region ?_ | refine J_block ?_ | refine J_skip ?_ | refine J_ret ?_ | refine J_exit ?_ | (refine IsCond ?_; first | refine J_cond_t rfl ?_ | refine J_cond_f rfl ?_ | refine J_cb rfl (fun _ => ?_) (fun _ => ?_) | refine J_nb rfl (fun _ => ?_) (fun _ => ?_))))
    rename_i b6 _
    refine At_asg hrec P1 ?_
    repeat' (first | (refine IsO ?_; first | refine JO_nil ?_ | (refine IsBin ?_; refine B1 rfl rfl rfl rfl ?_) | (refine IsLoad ?_; refine L1 rfl rfl rfl rfl ?_) | (refine IsStore ?_; refine S1 rfl rfl rfl rfl rfl rfl rfl (fun _ => ?_)) | (refine IsBox ?_; refine N1 rfl rfl rfl rfl (fun _ => ?_)) | (refine IsAlloc ?_; refine N2 rfl rfl rfl rfl (fun _ => ?_)) | refine V1 rfl rfl rfl ?_) | (refine IsAt ?_; first | (with_reducible first | refine T1 ?_ | refine T2 ?_ | refine T3 ?_ | refine T4 ?_ | refine T5 ?_ | refine T6 ?_ | refine T7 ?_) | ((with_reducible show At _ (PBlock _ _ (Exit.exit _)) _ _); refine At_block_hit ?_)) | (refine IsJ ?_; first | refine J_seq ?_ | refine J_region ?_ | refine J_block ?_ | refine J_skip ?_ | refine J_ret ?_ | refine J_exit ?_ | (refine IsCond ?_; first | refine J_cond_t rfl ?_ | refine J_cond_f rfl ?_ | refine J_cb rfl (fun _ => ?_) (fun _ => ?_) | refine J_nb rfl (fun _ => ?_) (fun _ => ?_))))
    have hend : ∀ (z : Int) H, Stars (pt k (.loop (R .ready none)) :: (fwdL pf p bw bs pm bm bst bf n T w nR ws st ms rs fs ++ [blk b6 [.int .i64 o.k, .int .i64 o.ws.length, .int .i64 z] 45, pt d (.deferred (some [])), blk b4 [.bool false] 4, blk b3 [ptr pf 0] 93, blk b2 [ptr p 0] 29])) H → Stars (heapL p bw bs n ws T st ++ Y false) H :=
      fun z H hl => (hl.perm (picks_perm (is := [2, 2, 2, 0, 7, 7, 7, 7, 0, 0, 0, 0, 0, 0]) rfl)).left
    cases hlv : lvB ms o with
    | false =>
      have hnl : ¬ LiveAt ms os (i : Int) := by
        rintro ⟨j2, o2, hj2, hl2, he⟩
        have := Ch.one hc hj2 ho (by omega)
        subst this
        rw [ho] at hj2; injection hj2 with hj2; subst hj2
        rw [hlv] at hl2; cases hl2
      refine JO_l (OL_call [9, 2, 2, 2, 6, 6, 6, 6, 6] rfl rfl rfl (To_no h hc hM hnl) rfl) rfl rfl ?_
      rintro _ _ ⟨_, ⟨rfl, rfl⟩, rfl⟩
      repeat' (first | (refine IsO ?_; first | refine JO_nil ?_ | (refine IsBin ?_; refine B1 rfl rfl rfl rfl ?_) | (refine IsLoad ?_; refine L1 rfl rfl rfl rfl ?_) | (refine IsStore ?_; refine S1 rfl rfl rfl rfl rfl rfl rfl (fun _ => ?_)) | (refine IsBox ?_; refine N1 rfl rfl rfl rfl (fun _ => ?_)) | (refine IsAlloc ?_; refine N2 rfl rfl rfl rfl (fun _ => ?_)) | refine V1 rfl rfl rfl ?_) | (refine IsAt ?_; first | (with_reducible first | refine T1 ?_ | refine T2 ?_ | refine T3 ?_ | refine T4 ?_ | refine T5 ?_ | refine T6 ?_ | refine T7 ?_) | ((with_reducible show At _ (PBlock _ _ (Exit.exit _)) _ _); refine At_block_hit ?_)) | (refine IsJ ?_; first | refine J_seq ?_ | refine J_region ?_ | refine J_block ?_ | refine J_skip ?_ | refine J_ret ?_ | refine J_exit ?_ | (refine IsCond ?_; first | refine J_cond_t rfl ?_ | refine J_cond_f rfl ?_ | refine J_cb rfl (fun _ => ?_) (fun _ => ?_) | refine J_nb rfl (fun _ => ?_) (fun _ => ?_))))
      refine At_roundEnd (.inl ⟨rfl, rfl⟩) hrec (i := 9) rfl (l' := heapL p bw bs n ws T st ++ Y false) (hend _) (.inl ⟨rfl, false, ⟨rfl, j + 1, hjl, by rw [hpn, Int.toNat_natCast], fun j' o' hj' ho' hl' => ?_⟩, rfl⟩)
      by_cases e : j' = j
      · subst e
        rw [ho] at ho'; injection ho' with ho'; subst ho'
        rw [hlv] at hl'; cases hl'
      · exact hI j' o' (by omega) ho' hl'
    | true =>
      have hTo := To_yes (pf := pf) (p := p) (bw := bw) (bs := bs) (pm := pm) (bm := bm) (bst := bst) (bf := bf) h hc hM hF hR ho hlv
      rw [hoi] at hTo
      refine JO_l (OL_call [9, 2, 2, 2, 6, 6, 6, 6, 6] rfl rfl rfl hTo rfl) rfl rfl ?_
      rintro _ _ ⟨_, ⟨rfl, rfl⟩, rfl⟩
      repeat' (first | (refine IsO ?_; first | refine JO_nil ?_ | (refine IsBin ?_; refine B1 rfl rfl rfl rfl ?_) | (refine IsLoad ?_; refine L1 rfl rfl rfl rfl ?_) | (refine IsStore ?_; refine S1 rfl rfl rfl rfl rfl rfl rfl (fun _ => ?_)) | (refine IsBox ?_; refine N1 rfl rfl rfl rfl (fun _ => ?_)) | (refine IsAlloc ?_; refine N2 rfl rfl rfl rfl (fun _ => ?_)) | refine V1 rfl rfl rfl ?_) | (refine IsAt ?_; first | (with_reducible first | refine T1 ?_ | refine T2 ?_ | refine T3 ?_ | refine T4 ?_ | refine T5 ?_ | refine T6 ?_ | refine T7 ?_) | ((with_reducible show At _ (PBlock _ _ (Exit.exit _)) _ _); refine At_block_hit ?_)) | (refine IsJ ?_; first | refine J_seq ?_ | refine J_region ?_ | refine J_block ?_ | refine J_skip ?_ | refine J_ret ?_ | refine J_exit ?_ | (refine IsCond ?_; first | refine J_cond_t rfl ?_ | refine J_cond_f rfl ?_ | refine J_cb rfl (fun _ => ?_) (fun _ => ?_) | refine J_nb rfl (fun _ => ?_) (fun _ => ?_))))
      obtain ⟨_, k2, k3, k4, k5⟩ := findR_some (x := 0) h hc ho
      have hgb := of_decide_eq_true k3
      obtain ⟨m, hm⟩ := Int.eq_ofNat_of_zero_le hgb.2.2.2.2.1
      have hmw : m ≤ o.ws.length := by omega
      rw [hm]
      let MM : List HP := fwdL pf p bw bs pm bm bst bf n T w nR ws st ms rs fs ++ [pt k (.loop (R .busy none)), blk b6 [.int .i64 o.k, .int .i64 o.ws.length, .int .i64 (m : Int)] 45, pt d (.deferred (some [])), blk b4 [.bool false] 4, blk b3 [ptr pf 0] 93, blk b2 [ptr p 0] 29]
      refine J_loop (α := Nat) (fun q => q ≤ m ∧ ∀ (q' : Nat) (y : Int), q' < q → o.ws[q']? = some y → y = 0 ∨ LiveAt ms os (y - 1))
        (fun q => [(2, ptr b2 0), (3, ptr b3 0), (4, ptr b4 0), (5, .int .i64 i), (6, ptr b6 0), (27, .int .i64 m), (28, .int .i64 q)])
        (fun q => MM) (fun q => m - q) 0 ⟨Nat.zero_le _, fun q' y hq' => absurd hq' (Nat.not_lt_zero _)⟩ (by repeat (first | exact True.intro | refine And.intro rfl ?_)) (fun H hl => hl) ?_
      rintro q ⟨hq, hJ⟩
      repeat' (first | (refine IsO ?_; first | refine JO_nil ?_ | (refine IsBin ?_; refine B1 rfl rfl rfl rfl ?_) | (refine IsLoad ?_; refine L1 rfl rfl rfl rfl ?_) | (refine IsStore ?_; refine S1 rfl rfl rfl rfl rfl rfl rfl (fun _ => ?_)) | (refine IsBox ?_; refine N1 rfl rfl rfl rfl (fun _ => ?_)) | (refine IsAlloc ?_; refine N2 rfl rfl rfl rfl (fun _ => ?_)) | refine V1 rfl rfl rfl ?_) | (refine IsAt ?_; first | (with_reducible first | refine T1 ?_ | refine T2 ?_ | refine T3 ?_ | refine T4 ?_ | refine T5 ?_ | refine T6 ?_ | refine T7 ?_) | ((with_reducible show At _ (PBlock _ _ (Exit.exit _)) _ _); refine At_block_hit ?_)) | (refine IsJ ?_; first | refine J_seq ?_ | refine J_region ?_ | refine J_skip ?_ | refine J_ret ?_ | refine J_exit ?_ | (refine IsCond ?_; first | refine J_cond_t rfl ?_ | refine J_cond_f rfl ?_ | refine J_cb rfl (fun _ => ?_) (fun _ => ?_) | refine J_nb rfl (fun _ => ?_) (fun _ => ?_))))
      · rename_i hlt
        refine J_block ?_
        have hqm : q < m := by omega
        obtain ⟨y, hy⟩ : ∃ y, o.ws[q]? = some y := ⟨o.ws[q]'(by omega), List.getElem?_eq_getElem _⟩
        have hy64 := Ch.mem64 h hc (List.mem_of_getElem? ho) hy
        have hyw : ws[i + 1 + q]? = some y := by rw [← hoi, hat.2.2.2.1 q (by omega)]; exact hy
        have hRd := Read_okT (p := p) (bw := bw) (bs := bs) i q x y h hs hx hg (by rw [u2]; omega) hle2 hyw
        have hWd : ∃ (w' e : Int), (e = 0 ↔ (y = 0 ∨ LiveAt ms os (y - 1))) ∧ Does Try.prog 47 [ptr pf 0, .int .i64 y] (fwdL pf p bw bs pm bm bst bf n T w nR ws st ms rs fs)
            (fun v l => v = .tuple #[.int .i64 w', .int .i64 e] ∧ l = fwdL pf p bw bs pm bm bst bf n T w nR ws st ms rs fs) := by
          by_cases hl : LiveAt ms os (y - 1)
          · obtain ⟨j2, o2, hj2, hl2, he⟩ := hl
            have hyo : y = (o2.i : Int) + 1 := by omega
            rw [hyo]
            exact ⟨_, 0, ⟨fun _ => .inr ⟨j2, o2, hj2, hl2, by omega⟩, fun _ => rfl⟩, Word_yes h hc hM hF hR hj2 hl2⟩
          · by_cases h0 : y = 0
            · rw [h0]
              exact ⟨0, 0, ⟨fun _ => .inl rfl, fun _ => rfl⟩, Word_zero⟩
            · exact ⟨0, 5, ⟨fun e => absurd e (by decide), fun e => absurd e (by rintro (e | e); exact h0 e; exact hl e)⟩, Word_no h0 hy64 h hc hM hl⟩
        obtain ⟨w', e, he, hWd⟩ := hWd
        repeat' (first | (refine IsO ?_; first | refine JO_nil ?_ | (refine IsBin ?_; refine B1 rfl rfl rfl rfl ?_) | (refine IsLoad ?_; refine L1 rfl rfl rfl rfl ?_) | (refine IsStore ?_; refine S1 rfl rfl rfl rfl rfl rfl rfl (fun _ => ?_)) | (refine IsBox ?_; refine N1 rfl rfl rfl rfl (fun _ => ?_)) | (refine IsAlloc ?_; refine N2 rfl rfl rfl rfl (fun _ => ?_)) | refine V1 rfl rfl rfl ?_) | (refine IsAt ?_; first | (with_reducible first | refine T1 ?_ | refine T2 ?_ | refine T3 ?_ | refine T4 ?_ | refine T5 ?_ | refine T6 ?_ | refine T7 ?_) | ((with_reducible show At _ (PBlock _ _ (Exit.exit _)) _ _); refine At_block_hit ?_)) | (refine IsJ ?_; first | refine J_seq ?_ | refine J_region ?_ | refine J_block ?_ | refine J_skip ?_ | refine J_ret ?_ | refine J_exit ?_ | (refine IsCond ?_; first | refine J_cond_t rfl ?_ | refine J_cond_f rfl ?_ | refine J_cb rfl (fun _ => ?_) (fun _ => ?_) | refine J_nb rfl (fun _ => ?_) (fun _ => ?_))))
        refine JO_l (OL_call [1, 1, 1] rfl rfl rfl hRd rfl) rfl rfl ?_
        rintro _ _ ⟨_, ⟨rfl, rfl⟩, rfl⟩
        repeat' (first | (refine IsO ?_; first | refine JO_nil ?_ | (refine IsBin ?_; refine B1 rfl rfl rfl rfl ?_) | (refine IsLoad ?_; refine L1 rfl rfl rfl rfl ?_) | (refine IsStore ?_; refine S1 rfl rfl rfl rfl rfl rfl rfl (fun _ => ?_)) | (refine IsBox ?_; refine N1 rfl rfl rfl rfl (fun _ => ?_)) | (refine IsAlloc ?_; refine N2 rfl rfl rfl rfl (fun _ => ?_)) | refine V1 rfl rfl rfl ?_) | (refine IsAt ?_; first | (with_reducible first | refine T1 ?_ | refine T2 ?_ | refine T3 ?_ | refine T4 ?_ | refine T5 ?_ | refine T6 ?_ | refine T7 ?_) | ((with_reducible show At _ (PBlock _ _ (Exit.exit _)) _ _); refine At_block_hit ?_)) | (refine IsJ ?_; first | refine J_seq ?_ | refine J_region ?_ | refine J_block ?_ | refine J_skip ?_ | refine J_ret ?_ | refine J_exit ?_ | (refine IsCond ?_; first | refine J_cond_t rfl ?_ | refine J_cond_f rfl ?_ | refine J_cb rfl (fun _ => ?_) (fun _ => ?_) | refine J_nb rfl (fun _ => ?_) (fun _ => ?_))))
        refine JO_l (OL_call [3, 0, 0, 0, 0, 0, 0, 0, 0] rfl rfl rfl hWd rfl) rfl rfl ?_
        rintro _ _ ⟨_, ⟨rfl, rfl⟩, rfl⟩
        repeat' (first | (refine IsO ?_; first | refine JO_nil ?_ | (refine IsBin ?_; refine B1 rfl rfl rfl rfl ?_) | (refine IsLoad ?_; refine L1 rfl rfl rfl rfl ?_) | (refine IsStore ?_; refine S1 rfl rfl rfl rfl rfl rfl rfl (fun _ => ?_)) | (refine IsBox ?_; refine N1 rfl rfl rfl rfl (fun _ => ?_)) | (refine IsAlloc ?_; refine N2 rfl rfl rfl rfl (fun _ => ?_)) | refine V1 rfl rfl rfl ?_) | (refine IsAt ?_; first | (with_reducible first | refine T1 ?_ | refine T2 ?_ | refine T3 ?_ | refine T4 ?_ | refine T5 ?_ | refine T6 ?_ | refine T7 ?_) | ((with_reducible show At _ (PBlock _ _ (Exit.exit _)) _ _); refine At_block_hit ?_)) | (refine IsJ ?_; first | refine J_seq ?_ | refine J_region ?_ | refine J_block ?_ | refine J_skip ?_ | refine J_ret ?_ | refine J_exit ?_ | (refine IsCond ?_; first | refine J_cond_t rfl ?_ | refine J_cond_f rfl ?_ | refine J_cb rfl (fun _ => ?_) (fun _ => ?_) | refine J_nb rfl (fun _ => ?_) (fun _ => ?_))))
        · rename_i hne
          refine JO_l0 (OL_store (i := 12) rfl rfl rfl rfl rfl rfl rfl rfl) rfl ?_
          rintro _ _ rfl
          repeat' (first | (refine IsO ?_; first | refine JO_nil ?_ | (refine IsBin ?_; refine B1 rfl rfl rfl rfl ?_) | (refine IsLoad ?_; refine L1 rfl rfl rfl rfl ?_) | (refine IsStore ?_; refine S1 rfl rfl rfl rfl rfl rfl rfl (fun _ => ?_)) | (refine IsBox ?_; refine N1 rfl rfl rfl rfl (fun _ => ?_)) | (refine IsAlloc ?_; refine N2 rfl rfl rfl rfl (fun _ => ?_)) | refine V1 rfl rfl rfl ?_) | (refine IsAt ?_; first | (with_reducible first | refine T1 ?_ | refine T2 ?_ | refine T3 ?_ | refine T4 ?_ | refine T5 ?_ | refine T6 ?_ | refine T7 ?_) | ((with_reducible show At _ (PBlock _ _ (Exit.exit _)) _ _); refine At_block_hit ?_)) | (refine IsJ ?_; first | refine J_seq ?_ | refine J_region ?_ | refine J_block ?_ | refine J_skip ?_ | refine J_ret ?_ | refine J_exit ?_ | (refine IsCond ?_; first | refine J_cond_t rfl ?_ | refine J_cond_f rfl ?_ | refine J_cb rfl (fun _ => ?_) (fun _ => ?_) | refine J_nb rfl (fun _ => ?_) (fun _ => ?_))))
          refine At_roundEnd (.inr (.inl ⟨rfl, rfl⟩)) hrec (i := 10) rfl (l' := heapL p bw bs n ws T st ++ Y true) (fun H hl => (hl.perm (picks_perm (is := [3, 3, 3, 0, 8, 0, 7, 7, 0, 0, 0, 0, 0, 0]) rfl)).left) (.inr ⟨rfl, true, ⟨rfl, fun hr => hne (he.2 (hr j o ho hlv q y (by omega) hy))⟩, rfl⟩)
        · refine At_round (q + 1) (by show m - (q + 1) < m - q; omega) ⟨by omega, fun q' y' hq' hy' => ?_⟩ (by repeat (first | exact True.intro | refine And.intro rfl ?_)) (fun H hl => hl)
          by_cases e2 : q' = q
          · subst e2
            rw [hy] at hy'; injection hy' with hy'; subst hy'
            exact he.1 (by assumption)
          · exact hJ q' y' (by omega) hy'
      · have hqe : q = m := by omega
        subst hqe
        repeat' (first | (refine IsO ?_; first | refine JO_nil ?_ | (refine IsBin ?_; refine B1 rfl rfl rfl rfl ?_) | (refine IsLoad ?_; refine L1 rfl rfl rfl rfl ?_) | (refine IsStore ?_; refine S1 rfl rfl rfl rfl rfl rfl rfl (fun _ => ?_)) | (refine IsBox ?_; refine N1 rfl rfl rfl rfl (fun _ => ?_)) | (refine IsAlloc ?_; refine N2 rfl rfl rfl rfl (fun _ => ?_)) | refine V1 rfl rfl rfl ?_) | (refine IsAt ?_; first | (with_reducible first | refine T1 ?_ | refine T2 ?_ | refine T3 ?_ | refine T4 ?_ | refine T5 ?_ | refine T6 ?_ | refine T7 ?_) | ((with_reducible show At _ (PBlock _ _ (Exit.exit _)) _ _); refine At_block_hit ?_)) | (refine IsJ ?_; first | refine J_seq ?_ | refine J_region ?_ | refine J_block ?_ | refine J_skip ?_ | refine J_ret ?_ | refine J_exit ?_ | (refine IsCond ?_; first | refine J_cond_t rfl ?_ | refine J_cond_f rfl ?_ | refine J_cb rfl (fun _ => ?_) (fun _ => ?_) | refine J_nb rfl (fun _ => ?_) (fun _ => ?_))))
        refine At_roundEnd (.inl ⟨rfl, rfl⟩) hrec (i := 9) rfl (l' := heapL p bw bs n ws T st ++ Y false) (hend _) (.inl ⟨rfl, false, ⟨rfl, j + 1, hjl, by rw [hpn, Int.toNat_natCast], fun j' o' hj' ho' hl' => ?_⟩, rfl⟩)
        by_cases e : j' = j
        · subst e
          rw [ho] at ho'; injection ho' with ho'; subst ho'
          exact fun k' w hk' hw => hJ k' w (by omega) hw
        · exact hI j' o' (by omega) ho' hl'
  refine ⟨_, [], _, (fun H hl => ?_), walkGen (bh := bh) (.func (.yield k) #[] #[]) Y Inv Stop h hy false ⟨rfl, 0, Nat.zero_le _, hc.pos0, fun j' o hj' => absurd hj' (Nat.not_lt_zero _)⟩, ?_⟩
  · have h2 := hl.perm (picks_perm (is := [2, 6, 6, 6, 0, 0, 0, 0, 0, 0, 0, 0, 0, 0, 0]) rfl)
    exact h2
  rintro v l1 ⟨s, hs, rfl, rfl⟩
  rcases hs with ⟨rfl, j, hj, hp, hI⟩ | ⟨rfl, hbad⟩
  · refine ⟨.ready, none, pt d (.deferred (some [])) :: blk b4 [.bool false] 4 :: fwdL pf p bw bs pm bm bst bf n T w nR ws st ms rs fs, by decide, fun H hl => ?_, fun _ => ?_, fun c hc => by cases hc⟩
    · have h2 := hl.perm (picks_perm (is := [4, 4, 4, 6, 1, 1, 1, 3, 3, 3, 3, 3]) rfl)
      exact h2.left
    · refine At_block_normal ?_
      rw [PThen_D (D' := [⟨.collected d, #[]⟩])]
      refine At_then_normal ?_
      repeat' (first | (refine IsO ?_; first | refine JO_nil ?_ | (refine IsBin ?_; refine B1 rfl rfl rfl rfl ?_) | (refine IsLoad ?_; refine L1 rfl rfl rfl rfl ?_) | (refine IsStore ?_; refine S1 rfl rfl rfl rfl rfl rfl rfl (fun _ => ?_)) | (refine IsBox ?_; refine N1 rfl rfl rfl rfl (fun _ => ?_)) | (refine IsAlloc ?_; refine N2 rfl rfl rfl rfl (fun _ => ?_)) | refine V1 rfl rfl rfl ?_) | (refine IsAt ?_; first | (with_reducible first | refine T1 ?_ | refine T2 ?_ | refine T3 ?_ | refine T4 ?_ | refine T5 ?_ | refine T6 ?_ | refine T7 ?_) | ((with_reducible show At _ (PBlock _ _ (Exit.exit _)) _ _); refine At_block_hit ?_)) | (refine IsJ ?_; first | refine J_seq ?_ | refine J_region ?_ | refine J_block ?_ | refine J_skip ?_ | refine J_ret ?_ | refine J_exit ?_ | (refine IsCond ?_; first | refine J_cond_t rfl ?_ | refine J_cond_f rfl ?_ | refine J_cb rfl (fun _ => ?_) (fun _ => ?_) | refine J_nb rfl (fun _ => ?_) (fun _ => ?_))))
      refine At_scope_ret ?_
      have hjl := hc.pos_T hj hp
      exact At_retM rfl P1 (.cell rfl rfl (by repeat (first | exact .head _ | refine .tail _ ?_)) rfl .nil) rfl (fun H hl => hl.tail) ⟨true, ⟨fun _ j' o ho hl k' w' hk' hw' => hI j' o (by have := (List.getElem?_eq_some_iff.1 ho).1; omega) ho hl k' w' hk' hw', fun _ => rfl⟩, rfl, rfl⟩
  · refine ⟨.done, some .ret, pt d (.deferred (some [])) :: blk b4 [.bool false] 4 :: fwdL pf p bw bs pm bm bst bf n T w nR ws st ms rs fs, by decide, fun H hl => ?_, fun hc => (by cases hc), fun c hc => ?_⟩
    · have h2 := hl.perm (picks_perm (is := [4, 4, 4, 6, 1, 1, 1, 3, 3, 3, 3, 3]) rfl)
      exact h2.left
    · injection hc with hc
      subst hc
      repeat' (first | (refine IsO ?_; first | refine JO_nil ?_ | (refine IsBin ?_; refine B1 rfl rfl rfl rfl ?_) | (refine IsLoad ?_; refine L1 rfl rfl rfl rfl ?_) | (refine IsStore ?_; refine S1 rfl rfl rfl rfl rfl rfl rfl (fun _ => ?_)) | (refine IsBox ?_; refine N1 rfl rfl rfl rfl (fun _ => ?_)) | (refine IsAlloc ?_; refine N2 rfl rfl rfl rfl (fun _ => ?_)) | refine V1 rfl rfl rfl ?_) | (refine IsAt ?_; first | (with_reducible first | refine T1 ?_ | refine T2 ?_ | refine T3 ?_ | refine T4 ?_ | refine T5 ?_ | refine T6 ?_ | refine T7 ?_) | ((with_reducible show At _ (PBlock _ _ (Exit.exit _)) _ _); refine At_block_hit ?_)) | (refine IsJ ?_; first | refine J_seq ?_ | refine J_region ?_ | refine J_block ?_ | refine J_skip ?_ | refine J_ret ?_ | refine J_exit ?_ | (refine IsCond ?_; first | refine J_cond_t rfl ?_ | refine J_cond_f rfl ?_ | refine J_cb rfl (fun _ => ?_) (fun _ => ?_) | refine J_nb rfl (fun _ => ?_) (fun _ => ?_))))
      refine At_scope_ret ?_
      exact At_retM rfl P0 (.cell rfl rfl (by repeat (first | exact .head _ | refine .tail _ ?_)) rfl .nil) rfl (fun H hl => hl.tail) ⟨false, ⟨fun e => absurd e (by decide), fun e => absurd e hbad⟩, rfl, rfl⟩
end ops
end Go.Proofs.Ytahfnbpbdnmggaa
/-
  Our own: slices.Clone of touches.
-/
set_option linter.unusedVariables false
set_option linter.unusedSimpArgs false
namespace Go.Proofs.Ytahfnbpbdnmggaa
open Go.Sep
set_option maxHeartbeats 1000000 in
theorem CloneT_spec {R : HP} {m cap : Nat} {a : Option Addr} {cs : List Value} (h : Reads R 5 m a cap cs) (hp : plainL cs = true) (hm : m ≤ 1000000000) :
    Does Try.prog 83 [.slice a m cap] [R] (fun v l => ∃ a' cap', (a' = none → m = 0 ∧ cap' = 0) ∧ v = .slice a' m cap' ∧ l = [row 140 5 a' m cap' cs, R]) := by
  refine Does.of tiok Try.func83 (by kernel_rfl) rfl Try.ntmps83 rfl ?_
  intro W fr
  cases a with
  | none =>
    obtain ⟨rfl, rfl⟩ := h.empty rfl
    have hcs : cs = [] := List.eq_nil_of_length_eq_zero (by simpa using h.len)
    subst hcs
    repeat' (first | (refine IsO ?_; first | refine JO_nil ?_ | (refine IsBin ?_; refine B9 rfl rfl rfl rfl rfl rfl rfl ?_) | refine V1 rfl rfl rfl ?_) | (refine IsAt ?_; (with_reducible first | refine T1 ?_ | refine T2 ?_)) | (refine IsJ ?_; first | refine J_seq ?_ | refine J_region ?_ | refine J_skip ?_ | refine J_ret ?_ | (refine IsCond ?_; first | refine J_cond_t rfl ?_ | refine J_cond_f rfl ?_)))
    exact At_ret' rfl rfl (.tmp rfl .nil) rfl (fun _ hl => row_nil hl) ⟨none, 0, fun _ => ⟨rfl, rfl⟩, rfl, rfl⟩
  | some a =>
    repeat' (first | (refine IsO ?_; first | refine JO_nil ?_ | (refine IsBin ?_; refine B9 rfl rfl rfl rfl rfl rfl rfl ?_) | refine V1 rfl rfl rfl ?_) | (refine IsAt ?_; (with_reducible first | refine T1 ?_ | refine T2 ?_)) | (refine IsJ ?_; first | refine J_seq ?_ | refine J_region ?_ | refine J_skip ?_ | refine J_ret ?_ | (refine IsCond ?_; first | refine J_cond_t rfl ?_ | refine J_cond_f rfl ?_)))
    refine JO_l (OL_buildSlice (cs := []) rfl rfl rfl rfl rfl rfl rfl rfl) rfl rfl ?_
    rintro _ _ ⟨b, rfl, rfl⟩
    repeat' (first | (refine IsO ?_; first | refine JO_nil ?_ | (refine IsBin ?_; refine B9 rfl rfl rfl rfl rfl rfl rfl ?_) | refine V1 rfl rfl rfl ?_) | (refine IsAt ?_; (with_reducible first | refine T1 ?_ | refine T2 ?_)) | (refine IsJ ?_; first | refine J_seq ?_ | refine J_region ?_ | refine J_skip ?_ | refine J_ret ?_ | (refine IsCond ?_; first | refine J_cond_t rfl ?_ | refine J_cond_f rfl ?_)))
    refine JO_hp (fun _ hl => row_full (n := 0) (sz := 5) hl rfl) ?_
    refine JO_l (OL_append rfl rfl rfl rfl rfl P0 (h.src (.tail _ (.head _))) hp rfl (fun _ h => by cases h) (by omega) (by omega) (by decide)) rfl rfl ?_
    rintro _ _ ⟨a', cap', rfl, rfl⟩
    rw [Nat.zero_add, List.nil_append]
    repeat' (first | (refine IsO ?_; first | refine JO_nil ?_ | (refine IsBin ?_; refine B9 rfl rfl rfl rfl rfl rfl rfl ?_) | refine V1 rfl rfl rfl ?_) | (refine IsAt ?_; (with_reducible first | refine T1 ?_ | refine T2 ?_)) | (refine IsJ ?_; first | refine J_seq ?_ | refine J_region ?_ | refine J_skip ?_ | refine J_ret ?_ | (refine IsCond ?_; first | refine J_cond_t rfl ?_ | refine J_cond_f rfl ?_)))
    refine At_row P0 fun hr => ?_
    exact At_ret rfl rfl (.tmp rfl .nil) rfl (is := [0, 0]) rfl ⟨a', cap', hr.2.1, rfl, rfl⟩
end Go.Proofs.Ytahfnbpbdnmggaa
/-
  Our own: cells: what cell.New, touch, Load, Store, Swap, Add, Words, Log, Len, Clear do.
-/
set_option linter.unusedVariables false
set_option linter.unusedSimpArgs false
namespace Go.Proofs.Ytahfnbpbdnmggaa
open Go.Sep
structure Tch where
  who : Int
  place : Int
  what : Int
  was : Int
  is : Int
abbrev Tch.cells (t : Tch) : List Value := [.int .i64 t.who, .int .i64 t.place, .int .i64 t.what, .int .i64 t.was, .int .i64 t.is]
abbrev logV (lg : List Tch) : List Value := lg.flatMap Tch.cells
theorem plainL_log (lg : List Tch) : plainL (logV lg) = true := by
  induction lg with
  | nil => rfl
  | cons t lg ih => exact ih
/-- Cells, at p: their words, and who touched them. -/
abbrev cellsL (p bw : Nat) (a : Option Addr) (cap : Nat) (ws : List Int) (lg : List Tch) : List HP :=
  [blk p [sl bw ws.length, .slice a lg.length cap] 129, blk bw (intsV ws) 3, row 140 5 a lg.length cap (logV lg)]
set_option maxHeartbeats 1000000 in
theorem cellNew_ok (n : Nat) (h0 : 1 ≤ n) (h1 : n ≤ 65536) : Does Try.prog 40 [.int .i64 n] [] (fun v l => ∃ p bw, v = .tuple #[ptr p 0, .int .i64 0] ∧ l = cellsL p bw none 0 (List.replicate n 0) []) := by
  refine Does.of tiok Try.func40 (by kernel_rfl) rfl Try.ntmps40 rfl ?_
  intro W fr
  repeat' (first | (refine IsO ?_; first | refine JO_nil ?_ | (refine IsMove ?_; refine M2 rfl rfl rfl ?_) | (refine IsBox ?_; refine N1 rfl rfl rfl rfl (fun _ => ?_)) | (refine IsBuild ?_; refine U1 rfl rfl rfl rfl rfl rfl ?_) | refine V1 rfl rfl rfl ?_) | (refine IsAt ?_; (with_reducible refine T1 ?_)) | (refine IsJ ?_; first | refine J_seq ?_ | refine J_region ?_ | refine J_skip ?_ | refine J_ret ?_ | (refine IsCond ?_; refine K2 rfl ?_)))
  refine JO_l (OL_make rfl rfl rfl rfl (by omega) (by omega) (by omega)) rfl rfl ?_
  rintro _ _ ⟨bw, rfl, rfl⟩
  rw [Int.toNat_natCast]
  repeat' (first | (refine IsO ?_; first | refine JO_nil ?_ | (refine IsMove ?_; refine M2 rfl rfl rfl ?_) | (refine IsBox ?_; refine N1 rfl rfl rfl rfl (fun _ => ?_)) | (refine IsBuild ?_; refine U1 rfl rfl rfl rfl rfl rfl ?_) | refine V1 rfl rfl rfl ?_) | (refine IsAt ?_; (with_reducible refine T1 ?_)) | (refine IsJ ?_; first | refine J_seq ?_ | refine J_region ?_ | refine J_skip ?_ | refine J_ret ?_ | (refine IsCond ?_; refine K2 rfl ?_)))
  rename_i p
  refine At_ret' rfl rfl (.tmp rfl (.tmp rfl .nil)) rfl (fun H hl => ?_) ⟨p, bw, rfl, rfl⟩
  have e : cellsL p bw none 0 (List.replicate n 0) [] = [blk p [sl bw n, .slice none 0 0] 129, blk bw (List.replicate n (.int .i64 0)) 3, row 140 5 none 0 0 []] := by simp [cellsL, intsV, logV]
  rw [e]
  exact ((row_nil hl).perm (List.perm_append_comm (l₁ := [_])))
/-- Who may touch which place. -/
def mayTouch (who place : Int) (n : Nat) : Prop := 0 ≤ who ∧ who < 64 ∧ 0 ≤ place ∧ place < n
instance (who place : Int) (n : Nat) : Decidable (mayTouch who place n) := by unfold mayTouch; infer_instance
theorem reads_drop5 {R : HP} {m cap b o : Nat} {cs : List Value} (h : Reads R 5 m (some ⟨b, o, none⟩) cap cs) (k cap' : Nat) (hk : k ≤ m) : Reads R 5 (m - k) (some ⟨b, o + k * 5, none⟩) cap' (cs.drop (k * 5)) := by
  have hl := h.len
  refine ⟨by simp; omega, (fun h => by cases h), fun W l w hs hm i hi => ⟨b, o + k * 5, rfl, ?_⟩⟩
  obtain ⟨b', o', e, hc⟩ := h.cell W l w hs hm (k * 5 + i) (by omega)
  injection e with e
  injection e with e1 e2
  subst e1 e2
  rw [List.getElem?_drop, ← hc, Nat.add_assoc]
theorem logV_drop {lg : List Tch} {k : Nat} : (logV lg).drop (k * 5) = logV (lg.drop k) := by
  induction k generalizing lg with
  | zero => simp
  | succ k ih =>
    cases lg with
    | nil => simp
    | cons t r =>
      rw [List.drop_succ_cons, ← ih]
      rw [Nat.succ_mul]
      show (Value.int .i64 t.who :: Value.int .i64 t.place :: Value.int .i64 t.what :: Value.int .i64 t.was :: Value.int .i64 t.is :: logV r).drop (k * 5 + 1 + 1 + 1 + 1 + 1) = _
      simp only [List.drop_succ_cons]
set_option maxHeartbeats 8000000 in
theorem touch_ok {p bw : Nat} {a : Option Addr} {cap : Nat} {ws : List Int} {lg : List Tch} (who what : Int) (place : Nat) (f : FuncId) (ca : Array Value) (rc : List HP) (was is : Int) (ok : Bool)
    (hturn : Does Try.prog f (.int .i64 was :: ca.toList) rc (fun v l => v = .tuple #[.int .i64 is, .bool ok] ∧ l = rc)) (h1 : 0 ≤ who) (h2 : who < 64) (hp : place < ws.length) (hwas : ws[place]? = some was) (hws : ws.length ≤ 65536) (hlg : lg.length ≤ 200000) :
    Does Try.prog 66 [ptr p 0, .int .i64 who, .int .i64 place, .int .i64 what, .func (.func f) #[] ca] (cellsL p bw a cap ws lg ++ rc)
      (fun v l => ∃ a' cap' lg', lg'.length ≤ 200000 ∧ v = .tuple #[.int .i64 (if ok then was else 0), .int .i64 (if ok then 0 else 8)] ∧ l = cellsL p bw a' cap' (ws.set place is) lg' ++ rc) := by
  refine Does.of tiok Try.func66 (by kernel_rfl) rfl Try.ntmps66 rfl ?_
  intro W fr
  repeat' (first | (refine IsO ?_; first | refine JO_nil ?_ | (refine IsMove ?_; refine M2 rfl rfl rfl ?_) | (refine IsLoad ?_; refine L1 rfl rfl rfl rfl ?_) | (refine IsStore ?_; refine S1 rfl rfl rfl rfl rfl rfl rfl (fun _ => ?_)) | (refine IsBuild ?_; refine U1 rfl rfl rfl rfl rfl rfl ?_) | refine V1 rfl rfl rfl ?_) | (refine IsAt ?_; (with_reducible first | refine T1 ?_ | refine T2 ?_)) | (refine IsJ ?_; first | refine J_seq ?_ | refine J_region ?_ | refine J_skip ?_ | refine J_ret ?_ | (refine IsCond ?_; first | refine J_cond_t rfl ?_ | refine J_cond_f rfl ?_ | refine K1 rfl ?_ | refine K2 rfl ?_)))
  refine JO_val (OV_idx (off := place) rfl rfl rfl rfl (by omega) (by omega) (by simp)) rfl rfl ?_
  refine JO_q (OQ_load (v := .int .i64 was) rfl rfl (.tail _ (.head _)) (by simp [intsV, hwas])) rfl rfl ?_
  repeat' (first | (refine IsO ?_; first | refine JO_nil ?_ | (refine IsMove ?_; refine M2 rfl rfl rfl ?_) | (refine IsLoad ?_; refine L1 rfl rfl rfl rfl ?_) | (refine IsStore ?_; refine S1 rfl rfl rfl rfl rfl rfl rfl (fun _ => ?_)) | (refine IsBuild ?_; refine U1 rfl rfl rfl rfl rfl rfl ?_) | refine V1 rfl rfl rfl ?_) | (refine IsAt ?_; (with_reducible first | refine T1 ?_ | refine T2 ?_)) | (refine IsJ ?_; first | refine J_seq ?_ | refine J_region ?_ | refine J_skip ?_ | refine J_ret ?_ | (refine IsCond ?_; first | refine J_cond_t rfl ?_ | refine J_cond_f rfl ?_ | refine K1 rfl ?_ | refine K2 rfl ?_)))
  refine JO_l (OL_callP rfl rfl rfl hturn List.perm_append_comm) rfl rfl ?_
  rintro _ _ ⟨_, ⟨rfl, hl⟩, rfl⟩
  rw [hl]
  refine JO_perm (l' := cellsL p bw a cap ws lg ++ rc) List.perm_append_comm ?_
  repeat' (first | (refine IsO ?_; first | refine JO_nil ?_ | (refine IsMove ?_; refine M2 rfl rfl rfl ?_) | (refine IsLoad ?_; refine L1 rfl rfl rfl rfl ?_) | (refine IsStore ?_; refine S1 rfl rfl rfl rfl rfl rfl rfl (fun _ => ?_)) | (refine IsBuild ?_; refine U1 rfl rfl rfl rfl rfl rfl ?_) | refine V1 rfl rfl rfl ?_) | (refine IsAt ?_; (with_reducible first | refine T1 ?_ | refine T2 ?_)) | (refine IsJ ?_; first | refine J_seq ?_ | refine J_region ?_ | refine J_skip ?_ | refine J_ret ?_ | (refine IsCond ?_; first | refine J_cond_t rfl ?_ | refine J_cond_f rfl ?_ | refine K1 rfl ?_ | refine K2 rfl ?_)))
  refine JO_val (OV_idx (off := place) rfl rfl rfl rfl (by omega) (by omega) (by simp)) rfl rfl ?_
  refine JO_l0 (OL_store rfl rfl rfl rfl rfl rfl P1 (putL_ints is hp)) rfl ?_
  rintro _ _ rfl
  by_cases hg : lg.length < 200000
  · repeat' (first | (refine IsO ?_; first | refine JO_nil ?_ | (refine IsMove ?_; refine M2 rfl rfl rfl ?_) | (refine IsLoad ?_; refine L1 rfl rfl rfl rfl ?_) | (refine IsStore ?_; refine S1 rfl rfl rfl rfl rfl rfl rfl (fun _ => ?_)) | (refine IsBuild ?_; refine U1 rfl rfl rfl rfl rfl rfl ?_) | refine V1 rfl rfl rfl ?_) | (refine IsAt ?_; (with_reducible first | refine T1 ?_ | refine T2 ?_)) | (refine IsJ ?_; first | refine J_seq ?_ | refine J_region ?_ | refine J_skip ?_ | refine J_ret ?_ | (refine IsCond ?_; first | refine J_cond_t rfl ?_ | refine J_cond_f rfl ?_ | refine K1 rfl ?_ | refine K2 rfl ?_)))
    refine JO_l (OL_buildSlice (cs := Tch.cells ⟨who, place, what, was, is⟩) rfl rfl rfl rfl rfl rfl rfl rfl) rfl rfl ?_
    rintro _ _ ⟨b, rfl, rfl⟩
    refine JO_l (OL_append rfl rfl rfl rfl rfl P3 ((Reads.blk rfl).src (.head _)) rfl rfl (fun _ h => by cases h) (by omega) (by omega) (by decide)) rfl rfl ?_
    rintro _ _ ⟨a', cap', rfl, rfl⟩
    repeat' (first | (refine IsO ?_; first | refine JO_nil ?_ | (refine IsMove ?_; refine M2 rfl rfl rfl ?_) | (refine IsLoad ?_; refine L1 rfl rfl rfl rfl ?_) | (refine IsStore ?_; refine S1 rfl rfl rfl rfl rfl rfl rfl (fun _ => ?_)) | (refine IsBuild ?_; refine U1 rfl rfl rfl rfl rfl rfl ?_) | refine V1 rfl rfl rfl ?_) | (refine IsAt ?_; (with_reducible first | refine T1 ?_ | refine T2 ?_)) | (refine IsJ ?_; first | refine J_seq ?_ | refine J_region ?_ | refine J_skip ?_ | refine J_ret ?_ | (refine IsCond ?_; first | refine J_cond_t rfl ?_ | refine J_cond_f rfl ?_ | refine K1 rfl ?_ | refine K2 rfl ?_)))
    have e : logV (lg ++ [⟨who, place, what, was, is⟩]) = logV lg ++ Tch.cells ⟨who, place, what, was, is⟩ := by simp [logV]
    cases ok
    · repeat' (first | (refine IsO ?_; first | refine JO_nil ?_ | (refine IsMove ?_; refine M2 rfl rfl rfl ?_) | (refine IsLoad ?_; refine L1 rfl rfl rfl rfl ?_) | (refine IsStore ?_; refine S1 rfl rfl rfl rfl rfl rfl rfl (fun _ => ?_)) | (refine IsBuild ?_; refine U1 rfl rfl rfl rfl rfl rfl ?_) | refine V1 rfl rfl rfl ?_) | (refine IsAt ?_; (with_reducible first | refine T1 ?_ | refine T2 ?_)) | (refine IsJ ?_; first | refine J_seq ?_ | refine J_region ?_ | refine J_skip ?_ | refine J_ret ?_ | (refine IsCond ?_; first | refine J_cond_t rfl ?_ | refine J_cond_f rfl ?_ | refine K1 rfl ?_ | refine K2 rfl ?_)))
      exact At_ret' rfl rfl (.tmp rfl (.tmp rfl .nil)) rfl (l' := [_, _, _] ++ rc) (fun H hl => Stars.pickR (is := [0, 2, 0]) rfl 1 rfl hl) ⟨a', cap', lg ++ [⟨who, place, what, was, is⟩], by simp; omega, rfl, by simp only [cellsL, e, List.length_set, List.length_append, List.length_singleton]⟩
    · repeat' (first | (refine IsO ?_; first | refine JO_nil ?_ | (refine IsMove ?_; refine M2 rfl rfl rfl ?_) | (refine IsLoad ?_; refine L1 rfl rfl rfl rfl ?_) | (refine IsStore ?_; refine S1 rfl rfl rfl rfl rfl rfl rfl (fun _ => ?_)) | (refine IsBuild ?_; refine U1 rfl rfl rfl rfl rfl rfl ?_) | refine V1 rfl rfl rfl ?_) | (refine IsAt ?_; (with_reducible first | refine T1 ?_ | refine T2 ?_)) | (refine IsJ ?_; first | refine J_seq ?_ | refine J_region ?_ | refine J_skip ?_ | refine J_ret ?_ | (refine IsCond ?_; first | refine J_cond_t rfl ?_ | refine J_cond_f rfl ?_ | refine K1 rfl ?_ | refine K2 rfl ?_)))
      exact At_ret' rfl rfl (.tmp rfl (.tmp rfl .nil)) rfl (l' := [_, _, _] ++ rc) (fun H hl => Stars.pickR (is := [0, 2, 0]) rfl 1 rfl hl) ⟨a', cap', lg ++ [⟨who, place, what, was, is⟩], by simp; omega, rfl, by simp only [cellsL, e, List.length_set, List.length_append, List.length_singleton]⟩
  · repeat' (first | (refine IsO ?_; first | refine JO_nil ?_ | (refine IsMove ?_; refine M2 rfl rfl rfl ?_) | (refine IsLoad ?_; refine L1 rfl rfl rfl rfl ?_) | (refine IsStore ?_; refine S1 rfl rfl rfl rfl rfl rfl rfl (fun _ => ?_)) | (refine IsBuild ?_; refine U1 rfl rfl rfl rfl rfl rfl ?_) | refine V1 rfl rfl rfl ?_) | (refine IsAt ?_; (with_reducible first | refine T1 ?_ | refine T2 ?_)) | (refine IsJ ?_; first | refine J_seq ?_ | refine J_region ?_ | refine J_skip ?_ | refine J_ret ?_ | (refine IsCond ?_; first | refine J_cond_t rfl ?_ | refine J_cond_f rfl ?_ | refine K1 rfl ?_ | refine K2 rfl ?_)))
    refine J_row (i := 2) rfl fun hr => ?_
    have hRr := Reads.row (T := 140) hr.1 hr.2.1
    refine J_fact _ (fun w hs2 => hRr.some (by omega) hs2 (by simp)) ?_
    rintro ⟨b2, o2, rfl⟩
    refine J_draw [0, 0, 0, 0, 1, 0, 0, 0, 1, 0, 0, 0, 2, 0, 0, 2] (List.range 16) (by kernel_rfl) (by kernel_rfl) ?_
    repeat' (refine IsX ?_; first | (refine JX_nil ?_; refine At_np ?_) | (refine JX_op rfl ?_; refine XsO ?_; first | (refine XsBin ?_; refine XB2 rfl rfl rfl rfl rfl ?_) | (refine XsLoad ?_; refine XL1 rfl rfl rfl rfl rfl ?_) | (refine XsStore ?_; refine XS1 rfl rfl rfl rfl rfl rfl rfl rfl (fun _ => ?_)) | refine XV1 rfl rfl rfl rfl ?_))
    refine JX_val rfl rfl (OV_slice (cap := cap) (len := lg.length) (m := (lg.length : Int) - 100000) (n := (lg.length : Int)) (p' := some ⟨b2, o2 + (lg.length - 100000) * 5, none⟩) rfl rfl rfl rfl rfl rfl rfl (by omega) (by omega) (by omega) (by rw [if_neg (show ¬ cap = ((lg.length : Int) - 100000).toNat by have := hr.2.2; omega), Option.map_some, addr_add, show ((lg.length : Int) - 100000).toNat = lg.length - 100000 by omega])) rfl rfl ?_
    have hD := reads_drop5 hRr (lg.length - 100000) (cap - (lg.length - 100000)) (by omega)
    rw [logV_drop, show lg.length - (lg.length - 100000) = 100000 by omega] at hD
    rw [show ((lg.length : Int)).toNat - ((lg.length : Int) - 100000).toNat = 100000 by omega, show cap - ((lg.length : Int) - 100000).toNat = cap - (lg.length - 100000) by omega]
    refine JX_l rfl rfl (OL_call [2] rfl rfl rfl (CloneT_spec hD (plainL_log _) (by omega)) rfl) rfl rfl ?_
    rintro _ _ ⟨_, ⟨a3, cap3, hn3, rfl, rfl⟩, rfl⟩
    repeat' (refine IsX ?_; first | (refine JX_nil ?_; refine At_np ?_) | (refine JX_op rfl ?_; refine XsO ?_; first | (refine XsBin ?_; refine XB2 rfl rfl rfl rfl rfl ?_) | (refine XsLoad ?_; refine XL1 rfl rfl rfl rfl rfl ?_) | (refine XsStore ?_; refine XS1 rfl rfl rfl rfl rfl rfl rfl rfl (fun _ => ?_)) | refine XV1 rfl rfl rfl rfl ?_))
    refine At_then_normal ?_
    repeat' (first | (refine IsO ?_; first | refine JO_nil ?_ | (refine IsMove ?_; refine M2 rfl rfl rfl ?_) | (refine IsLoad ?_; refine L1 rfl rfl rfl rfl ?_) | (refine IsStore ?_; refine S1 rfl rfl rfl rfl rfl rfl rfl (fun _ => ?_)) | (refine IsBuild ?_; refine U1 rfl rfl rfl rfl rfl rfl ?_) | refine V1 rfl rfl rfl ?_) | (refine IsAt ?_; (with_reducible first | refine T1 ?_ | refine T2 ?_)) | (refine IsJ ?_; first | refine J_seq ?_ | refine J_region ?_ | refine J_skip ?_ | refine J_ret ?_ | (refine IsCond ?_; first | refine J_cond_t rfl ?_ | refine J_cond_f rfl ?_ | refine K1 rfl ?_ | refine K2 rfl ?_)))
    refine JO_l (OL_buildSlice (cs := Tch.cells ⟨who, place, what, was, is⟩) rfl rfl rfl rfl rfl rfl rfl rfl) rfl rfl ?_
    rintro _ _ ⟨b, rfl, rfl⟩
    refine JO_l (OL_append rfl rfl rfl rfl rfl P2 ((Reads.blk rfl).src (.head _)) rfl rfl (fun _ h => by cases h) (by omega) (by omega) (by decide)) rfl rfl ?_
    rintro _ _ ⟨a', cap', rfl, rfl⟩
    repeat' (first | (refine IsO ?_; first | refine JO_nil ?_ | (refine IsMove ?_; refine M2 rfl rfl rfl ?_) | (refine IsLoad ?_; refine L1 rfl rfl rfl rfl ?_) | (refine IsStore ?_; refine S1 rfl rfl rfl rfl rfl rfl rfl (fun _ => ?_)) | (refine IsBuild ?_; refine U1 rfl rfl rfl rfl rfl rfl ?_) | refine V1 rfl rfl rfl ?_) | (refine IsAt ?_; (with_reducible first | refine T1 ?_ | refine T2 ?_)) | (refine IsJ ?_; first | refine J_seq ?_ | refine J_region ?_ | refine J_skip ?_ | refine J_ret ?_ | (refine IsCond ?_; first | refine J_cond_t rfl ?_ | refine J_cond_f rfl ?_ | refine K1 rfl ?_ | refine K2 rfl ?_)))
    have e : logV (lg.drop (lg.length - 100000) ++ [⟨who, place, what, was, is⟩]) = logV (lg.drop (lg.length - 100000)) ++ Tch.cells ⟨who, place, what, was, is⟩ := by simp [logV]
    have e2 : (lg.drop (lg.length - 100000) ++ [(⟨who, place, what, was, is⟩ : Tch)]).length = 100000 + 1 := by simp; omega
    cases ok
    · repeat' (first | (refine IsO ?_; first | refine JO_nil ?_ | (refine IsMove ?_; refine M2 rfl rfl rfl ?_) | (refine IsLoad ?_; refine L1 rfl rfl rfl rfl ?_) | (refine IsStore ?_; refine S1 rfl rfl rfl rfl rfl rfl rfl (fun _ => ?_)) | (refine IsBuild ?_; refine U1 rfl rfl rfl rfl rfl rfl ?_) | refine V1 rfl rfl rfl ?_) | (refine IsAt ?_; (with_reducible first | refine T1 ?_ | refine T2 ?_)) | (refine IsJ ?_; first | refine J_seq ?_ | refine J_region ?_ | refine J_skip ?_ | refine J_ret ?_ | (refine IsCond ?_; first | refine J_cond_t rfl ?_ | refine J_cond_f rfl ?_ | refine K1 rfl ?_ | refine K2 rfl ?_)))
      exact At_ret' rfl rfl (.tmp rfl (.tmp rfl .nil)) rfl (l' := [_, _, _] ++ rc) (fun H hl => Stars.pickR (is := [0, 3, 0]) rfl 2 rfl hl) ⟨a', cap', lg.drop (lg.length - 100000) ++ [⟨who, place, what, was, is⟩], by rw [e2]; omega, rfl, by simp only [cellsL, e, e2, List.length_set]⟩
    · repeat' (first | (refine IsO ?_; first | refine JO_nil ?_ | (refine IsMove ?_; refine M2 rfl rfl rfl ?_) | (refine IsLoad ?_; refine L1 rfl rfl rfl rfl ?_) | (refine IsStore ?_; refine S1 rfl rfl rfl rfl rfl rfl rfl (fun _ => ?_)) | (refine IsBuild ?_; refine U1 rfl rfl rfl rfl rfl rfl ?_) | refine V1 rfl rfl rfl ?_) | (refine IsAt ?_; (with_reducible first | refine T1 ?_ | refine T2 ?_)) | (refine IsJ ?_; first | refine J_seq ?_ | refine J_region ?_ | refine J_skip ?_ | refine J_ret ?_ | (refine IsCond ?_; first | refine J_cond_t rfl ?_ | refine J_cond_f rfl ?_ | refine K1 rfl ?_ | refine K2 rfl ?_)))
      exact At_ret' rfl rfl (.tmp rfl (.tmp rfl .nil)) rfl (l' := [_, _, _] ++ rc) (fun H hl => Stars.pickR (is := [0, 3, 0]) rfl 2 rfl hl) ⟨a', cap', lg.drop (lg.length - 100000) ++ [⟨who, place, what, was, is⟩], by rw [e2]; omega, rfl, by simp only [cellsL, e, e2, List.length_set]⟩
end Go.Proofs.Ytahfnbpbdnmggaa
/-
  Our own: cells: Load, Store, Swap, Add, Words, Log, Len, Clear.
-/
set_option linter.unusedVariables false
set_option linter.unusedSimpArgs false
namespace Go.Proofs.Ytahfnbpbdnmggaa
open Go.Sep
theorem set_sameI {ws : List Int} {i : Nat} {v : Int} (h : ws[i]? = some v) : ws.set i v = ws := by
  obtain ⟨h1, h2⟩ := List.getElem?_eq_some_iff.1 h
  rw [← h2]; exact List.set_getElem_self h1
theorem loadTurn (was : Int) : Does Try.prog 100 [.int .i64 was] [] (fun v l => v = .tuple #[.int .i64 was, .bool true] ∧ l = []) := by
  refine Does.of tiok Try.func100 (by kernel_rfl) rfl Try.ntmps100 rfl ?_
  intro W fr
  repeat' (first | (refine IsO ?_; first | refine JO_nil ?_ | refine V1 rfl rfl rfl ?_) | (refine IsAt ?_; (with_reducible refine T1 ?_)) | (refine IsJ ?_; first | refine J_seq ?_ | refine J_region ?_ | refine J_ret ?_))
  exact At_ret rfl rfl (.tmp rfl (.tmp rfl .nil)) rfl (is := []) rfl ⟨rfl, rfl⟩
theorem addTurn (was by_ : Int) (b : Nat) : Does Try.prog 93 [.int .i64 was, ptr b 0] [blk b [.int .i64 by_] 3] (fun v l => v = .tuple #[.int .i64 (IntKind.wrap .i64 (was + by_)), .bool true] ∧ l = [blk b [.int .i64 by_] 3]) := by
  refine Does.of tiok Try.func93 (by kernel_rfl) rfl Try.ntmps93 rfl ?_
  intro W fr
  repeat' (first | (refine IsO ?_; first | refine JO_nil ?_ | (refine IsLoad ?_; refine L1 rfl rfl rfl rfl ?_) | refine V1 rfl rfl rfl ?_) | (refine IsAt ?_; (with_reducible refine T1 ?_)) | (refine IsJ ?_; first | refine J_seq ?_ | refine J_region ?_ | refine J_ret ?_))
  exact At_ret rfl rfl (.tmp rfl (.tmp rfl .nil)) rfl (is := [0]) rfl ⟨rfl, rfl⟩
theorem storeTurn (was w : Int) (b : Nat) : Does Try.prog 67 [.int .i64 was, ptr b 0] [blk b [.int .i64 w] 3] (fun v l => v = .tuple #[.int .i64 w, .bool true] ∧ l = [blk b [.int .i64 w] 3]) := by
  refine Does.of tiok Try.func67 (by kernel_rfl) rfl Try.ntmps67 rfl ?_
  intro W fr
  repeat' (first | (refine IsO ?_; first | refine JO_nil ?_ | (refine IsLoad ?_; refine L1 rfl rfl rfl rfl ?_) | refine V1 rfl rfl rfl ?_) | (refine IsAt ?_; (with_reducible refine T1 ?_)) | (refine IsJ ?_; first | refine J_seq ?_ | refine J_region ?_ | refine J_ret ?_))
  exact At_ret rfl rfl (.tmp rfl (.tmp rfl .nil)) rfl (is := [0]) rfl ⟨rfl, rfl⟩
section ops
variable {p bw : Nat} {a : Option Addr} {cap : Nat} {ws : List Int} {lg : List Tch}
theorem Load_ok (who was : Int) (place : Nat) (h1 : 0 ≤ who) (h2 : who < 64) (hp : place < ws.length) (hwas : ws[place]? = some was) (hws : ws.length ≤ 65536) (hlg : lg.length ≤ 200000) :
    Does Try.prog 95 [ptr p 0, .int .i64 who, .int .i64 place] (cellsL p bw a cap ws lg)
      (fun v l => ∃ a' cap' lg', lg'.length ≤ 200000 ∧ v = .tuple #[.int .i64 was, .int .i64 0] ∧ l = cellsL p bw a' cap' ws lg') := by
  refine Does.of tiok Try.func95 (by kernel_rfl) rfl Try.ntmps95 rfl ?_
  intro W fr
  repeat' (first | (refine IsO ?_; first | refine JO_nil ?_ | refine V1 rfl rfl rfl ?_) | (refine IsAt ?_; (with_reducible refine T1 ?_)) | (refine IsJ ?_; first | refine J_seq ?_ | refine J_region ?_ | refine J_ret ?_))
  refine JO_l (OL_callP (r := []) rfl rfl rfl (touch_ok who 1 place _ #[] [] was was true (loadTurn was) h1 h2 hp hwas hws hlg) (List.Perm.refl _)) rfl rfl ?_
  rintro _ _ ⟨_, ⟨a', cap', lg', hlg', rfl, rfl⟩, rfl⟩
  rw [set_sameI hwas]
  repeat' (first | (refine IsO ?_; first | refine JO_nil ?_ | refine V1 rfl rfl rfl ?_) | (refine IsAt ?_; (with_reducible refine T1 ?_)) | (refine IsJ ?_; first | refine J_seq ?_ | refine J_region ?_ | refine J_ret ?_))
  exact At_ret rfl rfl (.tmp rfl (.tmp rfl .nil)) rfl (is := [0, 0, 0]) rfl ⟨a', cap', lg', hlg', rfl, rfl⟩
theorem Add_ok (who was by_ : Int) (place : Nat) (h1 : 0 ≤ who) (h2 : who < 64) (hp : place < ws.length) (hwas : ws[place]? = some was) (hws : ws.length ≤ 65536) (hlg : lg.length ≤ 200000) :
    Does Try.prog 84 [ptr p 0, .int .i64 who, .int .i64 place, .int .i64 by_] (cellsL p bw a cap ws lg)
      (fun v l => ∃ a' cap' lg', lg'.length ≤ 200000 ∧ v = .tuple #[.int .i64 was, .int .i64 0] ∧ l = cellsL p bw a' cap' (ws.set place (IntKind.wrap .i64 (was + by_))) lg') := by
  refine Does.of tiok Try.func84 (by kernel_rfl) rfl Try.ntmps84 rfl ?_
  intro W fr
  repeat' (first | (refine IsO ?_; first | refine JO_nil ?_ | (refine IsBox ?_; refine N1 rfl rfl rfl rfl (fun _ => ?_)) | refine V1 rfl rfl rfl ?_) | (refine IsAt ?_; (with_reducible refine T1 ?_)) | (refine IsJ ?_; first | refine J_seq ?_ | refine J_region ?_ | refine J_ret ?_))
  rename_i b
  refine JO_l (OL_callP (r := []) rfl rfl rfl (touch_ok who 4 place _ #[ptr b 0] [blk b [.int .i64 by_] 3] was _ true (addTurn was by_ b) h1 h2 hp hwas hws hlg) (List.perm_append_comm (l₁ := [_]))) rfl rfl ?_
  rintro _ _ ⟨_, ⟨a', cap', lg', hlg', rfl, rfl⟩, rfl⟩
  repeat' (first | (refine IsO ?_; first | refine JO_nil ?_ | (refine IsBox ?_; refine N1 rfl rfl rfl rfl (fun _ => ?_)) | refine V1 rfl rfl rfl ?_) | (refine IsAt ?_; (with_reducible refine T1 ?_)) | (refine IsJ ?_; first | refine J_seq ?_ | refine J_region ?_ | refine J_ret ?_))
  exact At_ret rfl rfl (.tmp rfl (.tmp rfl .nil)) rfl (is := [0, 0, 0]) rfl ⟨a', cap', lg', hlg', rfl, rfl⟩
theorem Store_ok (who was w : Int) (place : Nat) (h1 : 0 ≤ who) (h2 : who < 64) (hp : place < ws.length) (hwas : ws[place]? = some was) (hws : ws.length ≤ 65536) (hlg : lg.length ≤ 200000) :
    Does Try.prog 41 [ptr p 0, .int .i64 who, .int .i64 place, .int .i64 w] (cellsL p bw a cap ws lg)
      (fun v l => ∃ a' cap' lg', lg'.length ≤ 200000 ∧ v = .int .i64 0 ∧ l = cellsL p bw a' cap' (ws.set place w) lg') := by
  refine Does.of tiok Try.func41 (by kernel_rfl) rfl Try.ntmps41 rfl ?_
  intro W fr
  repeat' (first | (refine IsO ?_; first | refine JO_nil ?_ | (refine IsBox ?_; refine N1 rfl rfl rfl rfl (fun _ => ?_)) | refine V1 rfl rfl rfl ?_) | (refine IsAt ?_; (with_reducible refine T1 ?_)) | (refine IsJ ?_; first | refine J_seq ?_ | refine J_region ?_ | refine J_ret ?_))
  rename_i b
  refine JO_l (OL_callP (r := []) rfl rfl rfl (touch_ok who 2 place _ #[ptr b 0] [blk b [.int .i64 w] 3] was _ true (storeTurn was w b) h1 h2 hp hwas hws hlg) (List.perm_append_comm (l₁ := [_]))) rfl rfl ?_
  rintro _ _ ⟨_, ⟨a', cap', lg', hlg', rfl, rfl⟩, rfl⟩
  repeat' (first | (refine IsO ?_; first | refine JO_nil ?_ | (refine IsBox ?_; refine N1 rfl rfl rfl rfl (fun _ => ?_)) | refine V1 rfl rfl rfl ?_) | (refine IsAt ?_; (with_reducible refine T1 ?_)) | (refine IsJ ?_; first | refine J_seq ?_ | refine J_region ?_ | refine J_ret ?_))
  exact At_ret rfl rfl (.tmp rfl .nil) rfl (is := [0, 0, 0]) rfl ⟨a', cap', lg', hlg', rfl, rfl⟩
theorem Words_spec (hws : ws.length ≤ 65536) : Does Try.prog 49 [ptr p 0] (cellsL p bw a cap ws lg)
    (fun v l => ∃ a' cap', (a' = none → ws.length = 0 ∧ cap' = 0) ∧ v = .slice a' ws.length cap' ∧ l = row 3 1 a' ws.length cap' (intsV ws) :: cellsL p bw a cap ws lg) := by
  refine Does.of tiok Try.func49 (by kernel_rfl) rfl Try.ntmps49 rfl ?_
  intro W fr
  repeat' (first | (refine IsO ?_; first | refine JO_nil ?_ | (refine IsLoad ?_; refine L1 rfl rfl rfl rfl ?_) | refine V1 rfl rfl rfl ?_) | (refine IsAt ?_; (with_reducible refine T1 ?_)) | (refine IsJ ?_; first | refine J_seq ?_ | refine J_region ?_ | refine J_ret ?_))
  refine JO_l (OL_call [1] rfl rfl rfl (CloneI_spec (Reads.blk (by simp [intsV])) (plainL_ints ws) (by omega)) rfl) rfl rfl ?_
  rintro _ _ ⟨_, ⟨a', cap', hn, rfl, rfl⟩, rfl⟩
  repeat' (first | (refine IsO ?_; first | refine JO_nil ?_ | (refine IsLoad ?_; refine L1 rfl rfl rfl rfl ?_) | refine V1 rfl rfl rfl ?_) | (refine IsAt ?_; (with_reducible refine T1 ?_)) | (refine IsJ ?_; first | refine J_seq ?_ | refine J_region ?_ | refine J_ret ?_))
  exact At_ret rfl rfl (.tmp rfl .nil) rfl (is := [0, 1, 0, 0]) rfl ⟨a', cap', hn, rfl, rfl⟩
end ops
end Go.Proofs.Ytahfnbpbdnmggaa
/-
  Our own: an assertion of things that are not told.
-/
namespace Go.Sep
/-- For some x of which Q holds the assertions p x hold. -/
def exP {α : Type} (Q : α → Prop) (p : α → List HP) : HP := fun H => ∃ x, Q x ∧ Stars (p x) H
theorem exP_in {α : Type} {Q : α → Prop} {p : α → List HP} {r : List HP} {H : PH} (x : α) (q : Q x) (h : Stars (p x ++ r) H) : Stars (exP Q p :: r) H := by
  obtain ⟨h1, h2, ap, s1, s2, a, b⟩ := h.app
  exact ⟨h1, h2, ap, s1, s2, ⟨x, q, a⟩, b⟩
theorem Sat.exP {α : Type} {Q : α → Prop} {p : α → List HP} {W w : World} {r : List HP} (h : Sat W (exP Q p :: r) w) : ∃ x, Q x ∧ Sat W (p x ++ r) w := by
  obtain ⟨h1, h2, ap, s1, s2, ⟨x, q, a⟩, b⟩ := h.stars
  exact ⟨x, q, h.os, h.tape, h.output, Stars.unapp ap s1 s2 a b⟩
section rules
variable {C : Ctx} {Q : Post} {g : Regs} {α : Type} {φ : α → Prop} {p : α → List HP} {r : List HP}
theorem Does.exP {P : Program} {f : FuncId} {args : List Value} {post : Value → List HP → Prop} (hE : Enters P f) (h : ∀ x, φ x → Does P f args (p x ++ r) post) : Does P f args (exP φ p :: r) post :=
  ⟨hE, fun W fr w hs => by
    obtain ⟨x, q, hs'⟩ := Sat.exP (r := r ++ fr) hs
    exact (h x q).2 W fr w (by rw [List.append_assoc]; exact hs')⟩
/-- What follows from what a call leaves. -/
theorem Does.post {P : Program} {f : FuncId} {args : List Value} {pre : List HP} {post post' : Value → List HP → Prop} (h : Does P f args pre post) (k : ∀ v l, post v l → ∃ l', post' v l' ∧ ∀ H, Stars l H → Stars l' H) : Does P f args pre post' :=
  ⟨h.1, fun W fr w hs => (h.2 W fr w hs).mono fun e w' ⟨v, l', he, hp, hs'⟩ => by
    obtain ⟨l2, hp2, hk⟩ := k v l' hp
    exact ⟨v, l2, he, hp2, hs'.lift hk⟩⟩
/-- A contract among other assertions. -/
theorem Does.wide {P : Program} {f : FuncId} {args : List Value} {pre L r : List HP} {post : Value → List HP → Prop} (h : Does P f args pre post) (is : List Nat) (hp : picks L is = some (pre, r)) : Does P f args L (fun v l => ∃ l1, post v l1 ∧ l = l1 ++ r) :=
  ⟨h.1, fun W fr w hs => (h.2 W (r ++ fr) w (by rw [← List.append_assoc]; exact hs.perm ((picks_perm hp).append_right fr))).mono fun e w' ⟨v, l, he, hp, hs'⟩ =>
    ⟨v, l ++ r, he, ⟨l, hp, rfl⟩, by rw [List.append_assoc]; exact hs'⟩⟩
end rules
end Go.Sep
/-
  Our own: cells whose log is not told: Load, Store, Add, Words, Clear.
-/
set_option linter.unusedVariables false
set_option linter.unusedSimpArgs false
namespace Go.Proofs.Ytahfnbpbdnmggaa
open Go.Sep
abbrev LgZ : Type := Option Addr × Nat × List Tch
/-- Cells, with any log. -/
abbrev cellsZ (p bw : Nat) (ws : List Int) : HP := exP (fun x : LgZ => x.2.2.length ≤ 200000) (fun x => cellsL p bw x.1 x.2.1 ws x.2.2)
theorem cellsZ_in {p bw : Nat} {a : Option Addr} {cap : Nat} {ws : List Int} {lg : List Tch} {r : List HP} {H : PH} (hlg : lg.length ≤ 200000) (h : Stars (cellsL p bw a cap ws lg ++ r) H) : Stars (cellsZ p bw ws :: r) H := exP_in (a, cap, lg) hlg h
section ops
variable {p bw : Nat} {ws : List Int}
theorem Load_z (who was : Int) (place : Nat) (h1 : 0 ≤ who) (h2 : who < 64) (hwas : ws[place]? = some was) (hws : ws.length ≤ 65536) :
    Does Try.prog 95 [ptr p 0, .int .i64 who, .int .i64 place] [cellsZ p bw ws] (fun v l => v = .tuple #[.int .i64 was, .int .i64 0] ∧ l = [cellsZ p bw ws]) :=
  have hp := (List.getElem?_eq_some_iff.1 hwas).1
  Does.exP (Load_ok (p := p) (bw := bw) (a := none) (cap := 0) (lg := []) who was place h1 h2 hp hwas hws (Nat.zero_le _)).1 fun x hx => by
    rw [List.append_nil]
    exact (Load_ok who was place h1 h2 hp hwas hws hx).post fun v l => by
      rintro ⟨a', cap', lg', hl, rfl, rfl⟩
      exact ⟨_, ⟨rfl, rfl⟩, fun H hs => cellsZ_in hl (by rwa [List.append_nil])⟩
theorem Add_z (who was : Int) (place : Nat) (h1 : 0 ≤ who) (h2 : who < 64) (hwas : ws[place]? = some was) (hws : ws.length ≤ 65536) (hb : -9223372036854775808 ≤ was + 1 ∧ was + 1 ≤ 9223372036854775807) :
    Does Try.prog 84 [ptr p 0, .int .i64 who, .int .i64 place, .int .i64 1] [cellsZ p bw ws] (fun v l => v = .tuple #[.int .i64 was, .int .i64 0] ∧ l = [cellsZ p bw (ws.set place (was + 1))]) :=
  have hp := (List.getElem?_eq_some_iff.1 hwas).1
  Does.exP (Add_ok (p := p) (bw := bw) (a := none) (cap := 0) (lg := []) who was 1 place h1 h2 hp hwas hws (Nat.zero_le _)).1 fun x hx => by
    rw [List.append_nil]
    exact (Add_ok who was 1 place h1 h2 hp hwas hws hx).post fun v l => by
      rintro ⟨a', cap', lg', hl, rfl, rfl⟩
      rw [wrap_id hb.1 hb.2]
      exact ⟨_, ⟨rfl, rfl⟩, fun H hs => cellsZ_in hl (by rwa [List.append_nil])⟩
theorem Store_z (who w : Int) (place : Nat) (h1 : 0 ≤ who) (h2 : who < 64) (hp : place < ws.length) (hws : ws.length ≤ 65536) :
    Does Try.prog 41 [ptr p 0, .int .i64 who, .int .i64 place, .int .i64 w] [cellsZ p bw ws] (fun v l => v = .int .i64 0 ∧ l = [cellsZ p bw (ws.set place w)]) :=
  have hwas : ws[place]? = some ws[place] := List.getElem?_eq_getElem hp
  Does.exP (Store_ok (p := p) (bw := bw) (a := none) (cap := 0) (lg := []) who _ w place h1 h2 hp hwas hws (Nat.zero_le _)).1 fun x hx => by
    rw [List.append_nil]
    exact (Store_ok who _ w place h1 h2 hp hwas hws hx).post fun v l => by
      rintro ⟨a', cap', lg', hl, rfl, rfl⟩
      exact ⟨_, ⟨rfl, rfl⟩, fun H hs => cellsZ_in hl (by rwa [List.append_nil])⟩
theorem CellsWords_z (hws : ws.length ≤ 65536) : Does Try.prog 49 [ptr p 0] [cellsZ p bw ws]
    (fun v l => ∃ a' cap', (a' = none → ws.length = 0 ∧ cap' = 0) ∧ v = .slice a' ws.length cap' ∧ l = [rowz 3 1 a' ws.length cap' (intsV ws), cellsZ p bw ws]) :=
  Does.exP (Words_spec (p := p) (bw := bw) (a := none) (cap := 0) (lg := []) hws).1 fun x hx => by
    rw [List.append_nil]
    exact (Words_spec hws).post fun v l => by
      rintro ⟨a', cap', hn, rfl, rfl⟩
      refine ⟨_, ⟨a', cap', hn, rfl, rfl⟩, fun H hs => rowz_row ?_⟩
      exact Stars.swap (cellsZ_in (a := x.1) (cap := x.2.1) hx (by exact hs.perm (List.perm_append_comm (l₁ := [_]))))
end ops
end Go.Proofs.Ytahfnbpbdnmggaa
/-
  Our own: many things of one kind as one assertion: one out, another one in.
-/
namespace Go.Sep
/-- What each of a list owns. -/
def bigM {α : Type} (f : α → HP) (xs : List α) : HP := big (xs.map f)
theorem permM_at {α : Type} : ∀ {rs : List α} {k : Nat} {r : α}, rs[k]? = some r → rs.Perm (r :: rs.eraseIdx k)
  | [], k, r, h => by simp at h
  | x :: rs, 0, r, h => by simp at h; subst h; exact List.Perm.refl _
  | x :: rs, k + 1, r, h => ((permM_at (rs := rs) (k := k) (by simpa using h)).cons x).trans (List.Perm.swap _ _ _)
theorem permM_put {α : Type} : ∀ {rs : List α} {k : Nat} {r' : α}, k < rs.length → (r' :: rs.eraseIdx k).Perm (rs.set k r')
  | [], k, r, h => by simp at h
  | x :: rs, 0, r, h => List.Perm.refl _
  | x :: rs, k + 1, r, h => (List.Perm.swap _ _ _).trans ((permM_put (rs := rs) (k := k) (by simpa using h)).cons x)
theorem bigM.out {α : Type} {f : α → HP} {xs : List α} {k : Nat} {x : α} {l : List HP} {H : PH} (hk : xs[k]? = some x) (h : Stars (bigM f xs :: l) H) : Stars (f x :: bigM f (xs.eraseIdx k) :: l) H := by
  have h1 : Stars (xs.map f ++ l) H := h.open
  have h2 : Stars ((f x :: (xs.eraseIdx k).map f) ++ l) H := h1.perm (((permM_at hk).map f).append_right _)
  have h3 : Stars ((xs.eraseIdx k).map f ++ (f x :: l)) H := h2.perm (List.perm_middle.symm)
  exact Stars.swap (Stars.shut h3)
theorem bigM.back {α : Type} {f : α → HP} {xs : List α} {k : Nat} {x : α} {l : List HP} {H : PH} (hk : k < xs.length) (h : Stars (f x :: bigM f (xs.eraseIdx k) :: l) H) : Stars (bigM f (xs.set k x) :: l) H := by
  have h1 := (Stars.swap h).open
  have h2 : Stars ((f x :: (xs.eraseIdx k).map f) ++ l) H := h1.perm List.perm_middle
  exact Stars.shut (h2.perm (((permM_put (r' := x) hk).map f).append_right _))
theorem bigM.put {α : Type} {f : α → HP} {xs : List α} {k : Nat} {x y : α} {l : List HP} {H : PH} (hk : xs[k]? = some x) (h : Stars (f y :: bigM f xs :: l) H) : Stars (bigM f (xs.set k y) :: l) H :=
  bigM.back (List.getElem?_eq_some_iff.1 hk).1 (Stars.swap (bigM.out hk (Stars.swap h)).tail)
theorem bigM.snoc {α : Type} {f : α → HP} {xs : List α} {x : α} {l : List HP} {H : PH} (h : Stars (f x :: bigM f xs :: l) H) : Stars (bigM f (xs ++ [x]) :: l) H := by
  have h1 := (Stars.swap h).open
  refine Stars.shut ?_
  rw [List.map_append]
  refine Stars.perm ?_ h1
  rw [List.append_assoc]
  exact List.Perm.refl _
end Go.Sep
/-
  Our own: slider.New.
-/
set_option linter.unusedVariables false
set_option linter.unusedSimpArgs false
namespace Go.Proofs.Ytahfnbpbdnmggaa
open Go.Sep
/-- The first q words, noughts behind them. -/
def cwI (ws : List Int) (n q : Nat) : List Int := ws.take q ++ List.replicate (n - q) 0
theorem cwI_len {ws : List Int} {n q : Nat} (h : ws.length = n) (hq : q ≤ n) : (cwI ws n q).length = n := by
  unfold cwI
  rw [List.length_append, List.length_take, List.length_replicate]
  omega
theorem cwI_set {ws : List Int} {n q : Nat} {y : Int} (h : ws.length = n) (hq : q < n) (hy : ws[q]? = some y) : (cwI ws n q).set q y = cwI ws n (q + 1) := by
  apply List.ext_getElem?
  intro i
  unfold cwI
  rw [List.getElem?_set]
  simp only [List.getElem?_append, List.length_append, List.length_take, List.length_replicate, List.getElem?_take, List.getElem?_replicate]
  rw [show min q ws.length = q by omega, show min (q + 1) ws.length = q + 1 by omega]
  by_cases e : q = i
  · subst e
    rw [if_pos rfl, if_pos (by omega), if_pos (by omega), if_pos (by omega), hy]
  · rw [if_neg e]
    by_cases e2 : i < q
    · rw [if_pos e2, if_pos e2, if_pos (by omega), if_pos (by omega)]
    · rw [if_neg e2, if_neg (show ¬ i < q + 1 by omega)]
      by_cases e3 : i < n
      · rw [if_pos (show i - q < n - q by omega), if_pos (show i - (q + 1) < n - (q + 1) by omega)]
      · rw [if_neg (show ¬ i - q < n - q by omega), if_neg (show ¬ i - (q + 1) < n - (q + 1) by omega)]
theorem cwI_all {ws : List Int} {n : Nat} (h : ws.length = n) : cwI ws n n = ws := by
  unfold cwI
  rw [Nat.sub_self, ← h, List.take_length]
  simp
theorem numR_half {w T : Nat} (h : 2 ≤ w) : numR w T ≤ T / 2 + 1 := by
  unfold numR
  have h1 : (T + w - 1) / w < T / 2 + 2 := by
    rw [Nat.div_lt_iff_lt_mul (by omega), Nat.add_mul]
    have := Nat.mul_le_mul_left (T / 2) h
    omega
  omega
/-- A worker: where it lies, its next step, what it is at; the regions that it waits for, and the objects that it has to move, with what they own. -/
structure WX where
  c : Nat
  who : Int
  fn : FuncId
  region : Int
  wa : Option Addr
  wl : List Int
  wc : Nat
  oa : Option Addr
  ol : List Int
  oc : Nat
  from_ : Int
  to : Int
  size : Int
  refs : Int
  at_ : Int
  word : Int
  end_ : Int
abbrev wkC (ps : Nat) (x : WX) : List Value := [ptr ps 0, .int .i64 x.who, .func (.func x.fn) #[] #[], .int .i64 x.region, .slice x.wa x.wl.length x.wc, .slice x.oa x.ol.length x.oc, .int .i64 x.from_, .int .i64 x.to, .int .i64 x.size, .int .i64 x.refs, .int .i64 x.at_, .int .i64 x.word, .int .i64 x.end_]
abbrev wkL (ps : Nat) (x : WX) : List HP := [blk x.c (wkC ps x) 110, rowz 3 1 x.wa x.wl.length x.wc (intsV x.wl), rowz 3 1 x.oa x.ol.length x.oc (intsV x.ol)]
def wkH (ps : Nat) (x : WX) : HP := big (wkL ps x)
abbrev wk0 (who c : Nat) : WX := ⟨c, who, 44, 0, none, [], 0, none, [], 0, 0, 0, 0, 0, 0, 0, 0⟩
abbrev wkP (xs : List WX) : List Value := xs.map fun x => ptr x.c 0
theorem bigM_nil {α : Type} {f : α → HP} {l : List HP} {H : PH} (h : Stars l H) : Stars (bigM f [] :: l) H :=
  ⟨fun _ => none, H, fun _ => .inl rfl, (fun _ _ e => by cases e), Sub.refl _, trivial, h⟩
abbrev sldZ (ps pf p bw bs pm bm bst bf n T w nR pw bw2 pz bz : Nat) (ws : List Int) (st : List Bool) (ms : List Nat) (rs : List RG) (fs : List Int) (wds sts : List Int) (wa : Option Addr) (wc : Nat) (xs : List WX) (pv mv tv : Int) : List HP :=
  blk ps [ptr pf 0, ptr p 0, ptr pw 0, ptr pz 0, .slice wa xs.length wc, .int .i64 pv, .int .i64 mv, .int .i64 tv] 99 :: row 107 1 wa xs.length wc (wkP xs) :: bigM (wkH ps) xs ::
    cellsZ pz bz sts :: cellsZ pw bw2 wds :: (heapL p bw bs n ws T st ++ (blk pf (fwdV p pm w bst bf nR) 106 :: (marksL pm bm n ms ++ regL bst bf rs fs)))
section cells
variable {p bw : Nat} {a : Option Addr} {cap : Nat} {ws : List Int} {lg : List Tch}
theorem CellsClear_spec : Does Try.prog 42 [ptr p 0] (cellsL p bw a cap ws lg) (fun v l => v = .tuple #[] ∧ l = cellsL p bw none 0 ws []) := by
  refine Does.of tiok Try.func42 (by kernel_rfl) rfl Try.ntmps42 rfl ?_
  intro W fr
  repeat' (first | (refine IsO ?_; first | refine JO_nil ?_ | (refine IsStore ?_; refine S1 rfl rfl rfl rfl rfl rfl rfl (fun _ => ?_)) | refine V1 rfl rfl rfl ?_) | (refine IsJ ?_; refine J_region ?_))
  refine At_ret' rfl rfl .nil rfl (l' := cellsL p bw none 0 ws []) (fun H hl => ?_) ⟨rfl, rfl⟩
  have h2 : Stars [blk p [sl bw ws.length, .slice none 0 0] 129, blk bw (intsV ws) 3] H := (hl.perm (picks_perm (is := [0, 0]) rfl)).left
  exact (row_nil h2).perm (List.perm_append_comm (l₁ := [_]))
theorem CellsClear_z : Does Try.prog 42 [ptr p 0] [cellsZ p bw ws] (fun v l => v = .tuple #[] ∧ l = [cellsZ p bw ws]) :=
  Does.exP (CellsClear_spec (p := p) (bw := bw) (a := none) (cap := 0) (ws := ws) (lg := [])).1 fun x hx => by
    rw [List.append_nil]
    exact CellsClear_spec.post fun v l => by
      rintro ⟨rfl, rfl⟩
      exact ⟨_, ⟨rfl, rfl⟩, fun H hs => cellsZ_in (Nat.zero_le _) (by rwa [List.append_nil])⟩
end cells
section ops
variable {p bw bs pm bm n T : Nat} {ws : List Int} {st : List Bool} {os : List RO} {ms : List Nat}
set_option maxHeartbeats 16000000 in
theorem SliderNew_ok (words : Int) (wk : Nat) (hw : 1 ≤ wk ∧ wk ≤ 64) (h64 : In64 words) (h : HT n T ws st) (hc : Ch ws 0 os T) (hM : MI n ms) (hld : LeadP os) (hyes : RightP ms os) (hn1 : 1 ≤ n) : Does Try.prog 13 [ptr p 0, ptr pm 0, .int .i64 words, .int .i64 wk] (heapL p bw bs n ws T st ++ marksL pm bm n ms)
    (fun v l => ∃ (ps pf w nR bst bf pw bw2 pz bz : Nat) (rs : List RG) (fs : List Int) (wa : Option Addr) (wc : Nat) (xs : List WX), 2 ≤ w ∧ RF w nR (lvs ms os) rs fs ∧ nR = numR w T ∧ xs.length = wk ∧ (∀ (j : Nat) (y : WX), xs[j]? = some y → y = wk0 j y.c) ∧
      v = .tuple #[ptr ps 0, .int .i64 0] ∧ l = sldZ ps pf p bw bs pm bm bst bf n T w nR pw bw2 pz bz ws st ms rs fs ws (List.replicate (3 + nR) 0) wa wc xs (((T : Int) - ((szL (lvs ms os) : Nat) : Int) + 16 - 1) / 16) 0 0) := by
  obtain ⟨h641, h642⟩ := h64
  have hwl := h.wl
  have htn := h.tn
  have hnb := h.nb
  refine Does.of tiok Try.func13 (by kernel_rfl) rfl Try.ntmps13 rfl ?_
  intro W fr
  repeat' (first | (refine IsO ?_; first | refine JO_nil ?_ | (refine IsMove ?_; refine M2 rfl rfl rfl ?_) | (refine IsBin ?_; first | refine B1 rfl rfl rfl rfl ?_ | refine B2 rfl rfl rfl rfl ?_ | refine B4 rfl rfl rfl rfl ?_) | (refine IsLoad ?_; first | refine L1 rfl rfl rfl rfl ?_ | refine L2 rfl rfl rfl rfl rfl ?_) | (refine IsStore ?_; refine S1 rfl rfl rfl rfl rfl rfl rfl (fun _ => ?_)) | (refine IsBox ?_; refine N1 rfl rfl rfl rfl (fun _ => ?_)) | (refine IsBuild ?_; refine U1 rfl rfl rfl rfl rfl rfl ?_) | refine V1 rfl rfl rfl ?_) | (refine IsAt ?_; first | (with_reducible first | refine T1 ?_ | refine T3 ?_ | refine T5 ?_ | refine T6 ?_) | ((with_reducible show At _ (PBlock _ _ (Exit.exit _)) _ _); refine At_block_hit ?_)) | (refine IsJ ?_; first | refine J_seq ?_ | refine J_region ?_ | refine J_block ?_ | refine J_skip ?_ | refine J_ret ?_ | refine J_exit ?_ | (refine IsCond ?_; first | refine J_cond_f rfl ?_ | refine K2 rfl ?_ | refine J_cb rfl (fun _ => ?_) (fun _ => ?_))))
  have hwd : In64 (if words < 2 then 2 else words) := by unfold In64; split <;> omega
  refine JO_l (OL_call [0, 0, 0, 0, 0] rfl rfl rfl (FwdNew_spec (if words < 2 then 2 else words) hwd h hc hM) rfl) rfl rfl ?_
  rintro _ _ ⟨_, ⟨pf, w, nR, bst, bf, rs, fs, hw2, hF, hnR, rfl, rfl⟩, rfl⟩
  repeat' (first | (refine IsO ?_; first | refine JO_nil ?_ | (refine IsMove ?_; refine M2 rfl rfl rfl ?_) | (refine IsBin ?_; first | refine B1 rfl rfl rfl rfl ?_ | refine B2 rfl rfl rfl rfl ?_ | refine B4 rfl rfl rfl rfl ?_) | (refine IsLoad ?_; first | refine L1 rfl rfl rfl rfl ?_ | refine L2 rfl rfl rfl rfl rfl ?_) | (refine IsStore ?_; refine S1 rfl rfl rfl rfl rfl rfl rfl (fun _ => ?_)) | (refine IsBox ?_; refine N1 rfl rfl rfl rfl (fun _ => ?_)) | (refine IsBuild ?_; refine U1 rfl rfl rfl rfl rfl rfl ?_) | refine V1 rfl rfl rfl ?_) | (refine IsAt ?_; first | (with_reducible first | refine T1 ?_ | refine T3 ?_ | refine T5 ?_ | refine T6 ?_) | ((with_reducible show At _ (PBlock _ _ (Exit.exit _)) _ _); refine At_block_hit ?_)) | (refine IsJ ?_; first | refine J_seq ?_ | refine J_region ?_ | refine J_block ?_ | refine J_skip ?_ | refine J_ret ?_ | refine J_exit ?_ | (refine IsCond ?_; first | refine J_cond_f rfl ?_ | refine K2 rfl ?_ | refine J_cb rfl (fun _ => ?_) (fun _ => ?_))))
  refine JO_l (OL_call [0, 0, 0, 0, 0, 0, 0, 0, 0] rfl rfl rfl (right_spec h hc hM hF hnR hld) rfl) rfl rfl ?_
  rintro _ _ ⟨_, ⟨t, ht, rfl, rfl⟩, rfl⟩
  obtain rfl : t = true := ht.2 hyes
  have hsz := goI_bd (ms := ms) (os := os) (q := os.length)
  have hszT : szL (lvs ms os) ≤ T := by
    have h1 := hc.sz
    have h2 : szL (lvs ms os) ≤ szL os := szL_filter
    omega
  have hM0 : Does Try.prog 24 [ptr p 0] (heapL p bw bs n ws T st) _ := heapTop
  repeat' (first | (refine IsO ?_; first | refine JO_nil ?_ | (refine IsMove ?_; refine M2 rfl rfl rfl ?_) | (refine IsBin ?_; first | refine B1 rfl rfl rfl rfl ?_ | refine B2 rfl rfl rfl rfl ?_ | refine B4 rfl rfl rfl rfl ?_) | (refine IsLoad ?_; first | refine L1 rfl rfl rfl rfl ?_ | refine L2 rfl rfl rfl rfl rfl ?_) | (refine IsStore ?_; refine S1 rfl rfl rfl rfl rfl rfl rfl (fun _ => ?_)) | (refine IsBox ?_; refine N1 rfl rfl rfl rfl (fun _ => ?_)) | (refine IsBuild ?_; refine U1 rfl rfl rfl rfl rfl rfl ?_) | refine V1 rfl rfl rfl ?_) | (refine IsAt ?_; first | (with_reducible first | refine T1 ?_ | refine T3 ?_ | refine T5 ?_ | refine T6 ?_) | ((with_reducible show At _ (PBlock _ _ (Exit.exit _)) _ _); refine At_block_hit ?_)) | (refine IsJ ?_; first | refine J_seq ?_ | refine J_region ?_ | refine J_block ?_ | refine J_skip ?_ | refine J_ret ?_ | refine J_exit ?_ | (refine IsCond ?_; first | refine J_cond_f rfl ?_ | refine K2 rfl ?_ | refine J_cb rfl (fun _ => ?_) (fun _ => ?_))))
  refine JO_l (OL_call [1, 1, 1] rfl rfl rfl hM0 rfl) rfl rfl ?_
  rintro _ _ ⟨_, ⟨rfl, rfl⟩, rfl⟩
  repeat' (first | (refine IsO ?_; first | refine JO_nil ?_ | (refine IsMove ?_; refine M2 rfl rfl rfl ?_) | (refine IsBin ?_; first | refine B1 rfl rfl rfl rfl ?_ | refine B2 rfl rfl rfl rfl ?_ | refine B4 rfl rfl rfl rfl ?_) | (refine IsLoad ?_; first | refine L1 rfl rfl rfl rfl ?_ | refine L2 rfl rfl rfl rfl rfl ?_) | (refine IsStore ?_; refine S1 rfl rfl rfl rfl rfl rfl rfl (fun _ => ?_)) | (refine IsBox ?_; refine N1 rfl rfl rfl rfl (fun _ => ?_)) | (refine IsBuild ?_; refine U1 rfl rfl rfl rfl rfl rfl ?_) | refine V1 rfl rfl rfl ?_) | (refine IsAt ?_; first | (with_reducible first | refine T1 ?_ | refine T3 ?_ | refine T5 ?_ | refine T6 ?_) | ((with_reducible show At _ (PBlock _ _ (Exit.exit _)) _ _); refine At_block_hit ?_)) | (refine IsJ ?_; first | refine J_seq ?_ | refine J_region ?_ | refine J_block ?_ | refine J_skip ?_ | refine J_ret ?_ | refine J_exit ?_ | (refine IsCond ?_; first | refine J_cond_f rfl ?_ | refine K2 rfl ?_ | refine J_cb rfl (fun _ => ?_) (fun _ => ?_))))
  refine JO_l (OL_call [3, 0, 0, 0, 0, 0, 0, 0, 0] rfl rfl rfl (FwdTop_spec hF) rfl) rfl rfl ?_
  rintro _ _ ⟨_, ⟨rfl, rfl⟩, rfl⟩
  repeat' (first | (refine IsO ?_; first | refine JO_nil ?_ | (refine IsMove ?_; refine M2 rfl rfl rfl ?_) | (refine IsBin ?_; first | refine B1 rfl rfl rfl rfl ?_ | refine B2 rfl rfl rfl rfl ?_ | refine B4 rfl rfl rfl rfl ?_) | (refine IsLoad ?_; first | refine L1 rfl rfl rfl rfl ?_ | refine L2 rfl rfl rfl rfl rfl ?_) | (refine IsStore ?_; refine S1 rfl rfl rfl rfl rfl rfl rfl (fun _ => ?_)) | (refine IsBox ?_; refine N1 rfl rfl rfl rfl (fun _ => ?_)) | (refine IsBuild ?_; refine U1 rfl rfl rfl rfl rfl rfl ?_) | refine V1 rfl rfl rfl ?_) | (refine IsAt ?_; first | (with_reducible first | refine T1 ?_ | refine T3 ?_ | refine T5 ?_ | refine T6 ?_) | ((with_reducible show At _ (PBlock _ _ (Exit.exit _)) _ _); refine At_block_hit ?_)) | (refine IsJ ?_; first | refine J_seq ?_ | refine J_region ?_ | refine J_block ?_ | refine J_skip ?_ | refine J_ret ?_ | refine J_exit ?_ | (refine IsCond ?_; first | refine J_cond_f rfl ?_ | refine K2 rfl ?_ | refine J_cb rfl (fun _ => ?_) (fun _ => ?_))))
  have hM1 : Does Try.prog 11 [ptr p 0] (heapL p bw bs n ws T st) _ := heapSize
  rename_i ps
  refine JO_l (OL_call [2, 2, 2] rfl rfl rfl hM1 rfl) rfl rfl ?_
  rintro _ _ ⟨_, ⟨rfl, rfl⟩, rfl⟩
  repeat' (first | (refine IsO ?_; first | refine JO_nil ?_ | (refine IsMove ?_; refine M2 rfl rfl rfl ?_) | (refine IsBin ?_; first | refine B1 rfl rfl rfl rfl ?_ | refine B2 rfl rfl rfl rfl ?_ | refine B4 rfl rfl rfl rfl ?_) | (refine IsLoad ?_; first | refine L1 rfl rfl rfl rfl ?_ | refine L2 rfl rfl rfl rfl rfl ?_) | (refine IsStore ?_; refine S1 rfl rfl rfl rfl rfl rfl rfl (fun _ => ?_)) | (refine IsBox ?_; refine N1 rfl rfl rfl rfl (fun _ => ?_)) | (refine IsBuild ?_; refine U1 rfl rfl rfl rfl rfl rfl ?_) | refine V1 rfl rfl rfl ?_) | (refine IsAt ?_; first | (with_reducible first | refine T1 ?_ | refine T3 ?_ | refine T5 ?_ | refine T6 ?_) | ((with_reducible show At _ (PBlock _ _ (Exit.exit _)) _ _); refine At_block_hit ?_)) | (refine IsJ ?_; first | refine J_seq ?_ | refine J_region ?_ | refine J_block ?_ | refine J_skip ?_ | refine J_ret ?_ | refine J_exit ?_ | (refine IsCond ?_; first | refine J_cond_f rfl ?_ | refine K2 rfl ?_ | refine J_cb rfl (fun _ => ?_) (fun _ => ?_))))
  refine JO_l (OL_call [] rfl rfl rfl (cellNew_ok n hn1 hnb) rfl) rfl rfl ?_; rintro _ _ ⟨_, ⟨pw, bw2, rfl, rfl⟩, rfl⟩
  repeat' (first | (refine IsO ?_; first | refine JO_nil ?_ | (refine IsMove ?_; refine M2 rfl rfl rfl ?_) | (refine IsBin ?_; first | refine B1 rfl rfl rfl rfl ?_ | refine B2 rfl rfl rfl rfl ?_ | refine B4 rfl rfl rfl rfl ?_) | (refine IsLoad ?_; first | refine L1 rfl rfl rfl rfl ?_ | refine L2 rfl rfl rfl rfl rfl ?_) | (refine IsStore ?_; refine S1 rfl rfl rfl rfl rfl rfl rfl (fun _ => ?_)) | (refine IsBox ?_; refine N1 rfl rfl rfl rfl (fun _ => ?_)) | (refine IsBuild ?_; refine U1 rfl rfl rfl rfl rfl rfl ?_) | refine V1 rfl rfl rfl ?_) | (refine IsAt ?_; first | (with_reducible first | refine T1 ?_ | refine T3 ?_ | refine T5 ?_ | refine T6 ?_) | ((with_reducible show At _ (PBlock _ _ (Exit.exit _)) _ _); refine At_block_hit ?_)) | (refine IsJ ?_; first | refine J_seq ?_ | refine J_region ?_ | refine J_block ?_ | refine J_skip ?_ | refine J_ret ?_ | refine J_exit ?_ | (refine IsCond ?_; first | refine J_cond_f rfl ?_ | refine K2 rfl ?_ | refine J_cb rfl (fun _ => ?_) (fun _ => ?_))))
  have hM2 : Does Try.prog 23 [ptr p 0] (heapL p bw bs n ws T st) _ := heapWords hwl hnb
  refine JO_l (OL_call [4, 4, 4] rfl rfl rfl hM2 rfl) rfl rfl ?_
  rintro _ _ ⟨_, ⟨a0, cap0, ha0, rfl, rfl⟩, rfl⟩
  repeat' (first | (refine IsO ?_; first | refine JO_nil ?_ | (refine IsMove ?_; refine M2 rfl rfl rfl ?_) | (refine IsBin ?_; first | refine B1 rfl rfl rfl rfl ?_ | refine B2 rfl rfl rfl rfl ?_ | refine B4 rfl rfl rfl rfl ?_) | (refine IsLoad ?_; first | refine L1 rfl rfl rfl rfl ?_ | refine L2 rfl rfl rfl rfl rfl ?_) | (refine IsStore ?_; refine S1 rfl rfl rfl rfl rfl rfl rfl (fun _ => ?_)) | (refine IsBox ?_; refine N1 rfl rfl rfl rfl (fun _ => ?_)) | (refine IsBuild ?_; refine U1 rfl rfl rfl rfl rfl rfl ?_) | refine V1 rfl rfl rfl ?_) | (refine IsAt ?_; first | (with_reducible first | refine T1 ?_ | refine T3 ?_ | refine T5 ?_ | refine T6 ?_) | ((with_reducible show At _ (PBlock _ _ (Exit.exit _)) _ _); refine At_block_hit ?_)) | (refine IsJ ?_; first | refine J_seq ?_ | refine J_region ?_ | refine J_block ?_ | refine J_skip ?_ | refine J_ret ?_ | refine J_exit ?_ | (refine IsCond ?_; first | refine J_cond_f rfl ?_ | refine K2 rfl ?_ | refine J_cb rfl (fun _ => ?_) (fun _ => ?_))))
  refine J_row P0 fun hr => ?_
  have hRw := Reads.row (T := 3) hr.1 hr.2.1
  obtain ⟨pv, hpv⟩ : ∃ pv, pv = (((T : Int) - ((szL (lvs ms os) : Nat) : Int) + 16 - 1) / 16) := ⟨_, rfl⟩
  rw [← hpv]
  refine J_loop (α := Nat) (fun q => q ≤ n)
    (fun q => [(3, .int .i64 wk), (10, ptr pf 0), (11, ptr ps 0), (52, .slice a0 n cap0), (53, .int .i64 n), (54, .int .i64 q)])
    (fun q => row 3 1 a0 n cap0 (intsV ws) :: heapL p bw bs n ws T st ++ (blk ps [ptr pf 0, ptr p 0, ptr pw 0, .pointer none, .slice none 0 0, .int .i64 pv, .int .i64 0, .int .i64 0] 99 :: cellsZ pw bw2 (cwI ws n q) :: (blk pf (fwdV p pm w bst bf nR) 106 :: (marksL pm bm n ms ++ regL bst bf rs fs))))
    (fun q => n - q) 0 (Nat.zero_le _) (by repeat (first | exact True.intro | refine And.intro rfl ?_)) (fun H hl => ?_) ?_
  · have h1 := Stars.pick (is := [5, 5, 5, 0, 0, 0, 0, 0, 0, 0, 0, 0, 0, 0]) (kp := cellsL pw bw2 none 0 (List.replicate n 0) [] ++ (row 3 1 a0 n cap0 (intsV ws) :: heapL p bw bs n ws T st ++ (blk ps [ptr pf 0, ptr p 0, ptr pw 0, .pointer none, .slice none 0 0, .int .i64 pv, .int .i64 0, .int .i64 0] 99 :: (blk pf (fwdV p pm w bst bf nR) 106 :: (marksL pm bm n ms ++ regL bst bf rs fs))))) rfl hl
    exact (cellsZ_in (Nat.zero_le _) h1).pick (is := [1, 1, 1, 1, 1, 0, 0, 0, 0, 0, 0, 0]) rfl
  intro q hq
  have hcl := cwI_len hwl hq
  repeat' (first | (refine IsO ?_; first | refine JO_nil ?_ | (refine IsMove ?_; refine M2 rfl rfl rfl ?_) | (refine IsBin ?_; first | refine B1 rfl rfl rfl rfl ?_ | refine B2 rfl rfl rfl rfl ?_ | refine B4 rfl rfl rfl rfl ?_) | (refine IsLoad ?_; first | refine L1 rfl rfl rfl rfl ?_ | refine L2 rfl rfl rfl rfl rfl ?_) | (refine IsStore ?_; refine S1 rfl rfl rfl rfl rfl rfl rfl (fun _ => ?_)) | (refine IsBox ?_; refine N1 rfl rfl rfl rfl (fun _ => ?_)) | (refine IsBuild ?_; refine U1 rfl rfl rfl rfl rfl rfl ?_) | refine V1 rfl rfl rfl ?_) | (refine IsAt ?_; first | (with_reducible first | refine T1 ?_ | refine T3 ?_ | refine T5 ?_ | refine T6 ?_) | ((with_reducible show At _ (PBlock _ _ (Exit.exit _)) _ _); refine At_block_hit ?_)) | (refine IsJ ?_; first | refine J_seq ?_ | refine J_region ?_ | refine J_skip ?_ | refine J_ret ?_ | refine J_exit ?_ | (refine IsCond ?_; first | refine J_cond_f rfl ?_ | refine K2 rfl ?_ | refine J_cb rfl (fun _ => ?_) (fun _ => ?_))))
  · rename_i hlt
    refine J_block ?_
    have hqn : q < n := by omega
    obtain ⟨y, hy⟩ : ∃ y, ws[q]? = some y := ⟨ws[q]'(by omega), List.getElem?_eq_getElem _⟩
    repeat' (first | (refine IsO ?_; first | refine JO_nil ?_ | (refine IsMove ?_; refine M2 rfl rfl rfl ?_) | (refine IsBin ?_; first | refine B1 rfl rfl rfl rfl ?_ | refine B2 rfl rfl rfl rfl ?_ | refine B4 rfl rfl rfl rfl ?_) | (refine IsLoad ?_; first | refine L1 rfl rfl rfl rfl ?_ | refine L2 rfl rfl rfl rfl rfl ?_) | (refine IsStore ?_; refine S1 rfl rfl rfl rfl rfl rfl rfl (fun _ => ?_)) | (refine IsBox ?_; refine N1 rfl rfl rfl rfl (fun _ => ?_)) | (refine IsBuild ?_; refine U1 rfl rfl rfl rfl rfl rfl ?_) | refine V1 rfl rfl rfl ?_) | (refine IsAt ?_; first | (with_reducible first | refine T1 ?_ | refine T3 ?_ | refine T5 ?_ | refine T6 ?_) | ((with_reducible show At _ (PBlock _ _ (Exit.exit _)) _ _); refine At_block_hit ?_)) | (refine IsJ ?_; first | refine J_seq ?_ | refine J_region ?_ | refine J_block ?_ | refine J_skip ?_ | refine J_ret ?_ | refine J_exit ?_ | (refine IsCond ?_; first | refine J_cond_f rfl ?_ | refine K2 rfl ?_ | refine J_cb rfl (fun _ => ?_) (fun _ => ?_))))
    refine JO_fact _ (fun w hs => hRw.some (by omega) hs (.head _)) ?_
    rintro ⟨b2, o2, rfl⟩
    refine JO_val (OV_idx (off := o2 + q) rfl rfl rfl rfl (by omega) (by omega) (by simp)) rfl rfl ?_
    refine JO_q (OQ_read (v := .int .i64 y) hRw (.head _) rfl rfl (by omega) (by simp [intsV, hy])) rfl rfl ?_
    repeat' (first | (refine IsO ?_; first | refine JO_nil ?_ | (refine IsMove ?_; refine M2 rfl rfl rfl ?_) | (refine IsBin ?_; first | refine B1 rfl rfl rfl rfl ?_ | refine B2 rfl rfl rfl rfl ?_ | refine B4 rfl rfl rfl rfl ?_) | (refine IsLoad ?_; first | refine L1 rfl rfl rfl rfl ?_ | refine L2 rfl rfl rfl rfl rfl ?_) | (refine IsStore ?_; refine S1 rfl rfl rfl rfl rfl rfl rfl (fun _ => ?_)) | (refine IsBox ?_; refine N1 rfl rfl rfl rfl (fun _ => ?_)) | (refine IsBuild ?_; refine U1 rfl rfl rfl rfl rfl rfl ?_) | refine V1 rfl rfl rfl ?_) | (refine IsAt ?_; first | (with_reducible first | refine T1 ?_ | refine T3 ?_ | refine T5 ?_ | refine T6 ?_) | ((with_reducible show At _ (PBlock _ _ (Exit.exit _)) _ _); refine At_block_hit ?_)) | (refine IsJ ?_; first | refine J_seq ?_ | refine J_region ?_ | refine J_block ?_ | refine J_skip ?_ | refine J_ret ?_ | refine J_exit ?_ | (refine IsCond ?_; first | refine J_cond_f rfl ?_ | refine K2 rfl ?_ | refine J_cb rfl (fun _ => ?_) (fun _ => ?_))))
    refine JO_l (OL_call [5] rfl rfl rfl (Store_z (p := pw) (bw := bw2) (ws := cwI ws n q) 0 y q (by decide) (by decide) (by omega) (by omega)) rfl) rfl rfl ?_
    rintro _ _ ⟨_, ⟨rfl, rfl⟩, rfl⟩
    repeat' (first | (refine IsO ?_; first | refine JO_nil ?_ | (refine IsMove ?_; refine M2 rfl rfl rfl ?_) | (refine IsBin ?_; first | refine B1 rfl rfl rfl rfl ?_ | refine B2 rfl rfl rfl rfl ?_ | refine B4 rfl rfl rfl rfl ?_) | (refine IsLoad ?_; first | refine L1 rfl rfl rfl rfl ?_ | refine L2 rfl rfl rfl rfl rfl ?_) | (refine IsStore ?_; refine S1 rfl rfl rfl rfl rfl rfl rfl (fun _ => ?_)) | (refine IsBox ?_; refine N1 rfl rfl rfl rfl (fun _ => ?_)) | (refine IsBuild ?_; refine U1 rfl rfl rfl rfl rfl rfl ?_) | refine V1 rfl rfl rfl ?_) | (refine IsAt ?_; first | (with_reducible first | refine T1 ?_ | refine T3 ?_ | refine T5 ?_ | refine T6 ?_) | ((with_reducible show At _ (PBlock _ _ (Exit.exit _)) _ _); refine At_block_hit ?_)) | (refine IsJ ?_; first | refine J_seq ?_ | refine J_region ?_ | refine J_block ?_ | refine J_skip ?_ | refine J_ret ?_ | refine J_exit ?_ | (refine IsCond ?_; first | refine J_cond_f rfl ?_ | refine K2 rfl ?_ | refine J_cb rfl (fun _ => ?_) (fun _ => ?_))))
    rw [cwI_set hwl hqn hy]
    exact At_round (q + 1) (by show n - (q + 1) < n - q; omega) (by omega) (by repeat (first | exact True.intro | refine And.intro rfl ?_)) (fun H hl => hl.pick (is := [1, 1, 1, 1, 1, 0, 0, 0, 0, 0, 0, 0]) rfl)
  · have hqe : q = n := by omega
    subst hqe
    rw [cwI_all hwl]
    repeat' (first | (refine IsO ?_; first | refine JO_nil ?_ | (refine IsMove ?_; refine M2 rfl rfl rfl ?_) | (refine IsBin ?_; first | refine B1 rfl rfl rfl rfl ?_ | refine B2 rfl rfl rfl rfl ?_ | refine B4 rfl rfl rfl rfl ?_) | (refine IsLoad ?_; first | refine L1 rfl rfl rfl rfl ?_ | refine L2 rfl rfl rfl rfl rfl ?_) | (refine IsStore ?_; refine S1 rfl rfl rfl rfl rfl rfl rfl (fun _ => ?_)) | (refine IsBox ?_; refine N1 rfl rfl rfl rfl (fun _ => ?_)) | (refine IsBuild ?_; refine U1 rfl rfl rfl rfl rfl rfl ?_) | refine V1 rfl rfl rfl ?_) | (refine IsAt ?_; first | (with_reducible first | refine T1 ?_ | refine T3 ?_ | refine T5 ?_ | refine T6 ?_) | ((with_reducible show At _ (PBlock _ _ (Exit.exit _)) _ _); refine At_block_hit ?_)) | (refine IsJ ?_; first | refine J_seq ?_ | refine J_region ?_ | refine J_block ?_ | refine J_skip ?_ | refine J_ret ?_ | refine J_exit ?_ | (refine IsCond ?_; first | refine J_cond_f rfl ?_ | refine K2 rfl ?_ | refine J_cb rfl (fun _ => ?_) (fun _ => ?_))))
    refine JO_l (OL_call [5] rfl rfl rfl (CellsClear_z (p := pw) (bw := bw2) (ws := ws)) rfl) rfl rfl ?_
    rintro _ _ ⟨_, ⟨rfl, rfl⟩, rfl⟩
    repeat' (first | (refine IsO ?_; first | refine JO_nil ?_ | (refine IsMove ?_; refine M2 rfl rfl rfl ?_) | (refine IsBin ?_; first | refine B1 rfl rfl rfl rfl ?_ | refine B2 rfl rfl rfl rfl ?_ | refine B4 rfl rfl rfl rfl ?_) | (refine IsLoad ?_; first | refine L1 rfl rfl rfl rfl ?_ | refine L2 rfl rfl rfl rfl rfl ?_) | (refine IsStore ?_; refine S1 rfl rfl rfl rfl rfl rfl rfl (fun _ => ?_)) | (refine IsBox ?_; refine N1 rfl rfl rfl rfl (fun _ => ?_)) | (refine IsBuild ?_; refine U1 rfl rfl rfl rfl rfl rfl ?_) | refine V1 rfl rfl rfl ?_) | (refine IsAt ?_; first | (with_reducible first | refine T1 ?_ | refine T3 ?_ | refine T5 ?_ | refine T6 ?_) | ((with_reducible show At _ (PBlock _ _ (Exit.exit _)) _ _); refine At_block_hit ?_)) | (refine IsJ ?_; first | refine J_seq ?_ | refine J_region ?_ | refine J_block ?_ | refine J_skip ?_ | refine J_ret ?_ | refine J_exit ?_ | (refine IsCond ?_; first | refine J_cond_f rfl ?_ | refine K2 rfl ?_ | refine J_cb rfl (fun _ => ?_) (fun _ => ?_))))
    refine JO_l (OL_call [] rfl rfl rfl (RegLen_spec (w := w) (bst := bst) (bf := bf) (nR := nR)) rfl) rfl rfl ?_
    rintro _ _ ⟨_, ⟨rfl, rfl⟩, rfl⟩
    have hw1 : 1 ≤ w := by rw [hw2]; exact widthR_in.1
    have hnRT := numR_le (T := T) hw1
    rw [← hnR] at hnRT
    repeat' (first | (refine IsO ?_; first | refine JO_nil ?_ | (refine IsMove ?_; refine M2 rfl rfl rfl ?_) | (refine IsBin ?_; first | refine B1 rfl rfl rfl rfl ?_ | refine B2 rfl rfl rfl rfl ?_ | refine B4 rfl rfl rfl rfl ?_) | (refine IsLoad ?_; first | refine L1 rfl rfl rfl rfl ?_ | refine L2 rfl rfl rfl rfl rfl ?_) | (refine IsStore ?_; refine S1 rfl rfl rfl rfl rfl rfl rfl (fun _ => ?_)) | (refine IsBox ?_; refine N1 rfl rfl rfl rfl (fun _ => ?_)) | (refine IsBuild ?_; refine U1 rfl rfl rfl rfl rfl rfl ?_) | refine V1 rfl rfl rfl ?_) | (refine IsAt ?_; first | (with_reducible first | refine T1 ?_ | refine T3 ?_ | refine T5 ?_ | refine T6 ?_) | ((with_reducible show At _ (PBlock _ _ (Exit.exit _)) _ _); refine At_block_hit ?_)) | (refine IsJ ?_; first | refine J_seq ?_ | refine J_region ?_ | refine J_block ?_ | refine J_skip ?_ | refine J_ret ?_ | refine J_exit ?_ | (refine IsCond ?_; first | refine J_cond_f rfl ?_ | refine K2 rfl ?_ | refine J_cb rfl (fun _ => ?_) (fun _ => ?_))))
    have hw2' : 2 ≤ w := by
      rw [hw2]
      unfold widthR
      split <;> omega
    have hhalf := numR_half (T := T) hw2'
    rw [← hnR] at hhalf
    rw [show (3 : Int) + (nR : Int) = ((3 + nR : Nat) : Int) by omega]
    refine JO_l (OL_call [] rfl rfl rfl (cellNew_ok (3 + nR) (by omega) (by omega)) rfl) rfl rfl ?_; rintro _ _ ⟨_, ⟨pz, bz, rfl, rfl⟩, rfl⟩
    repeat' (first | (refine IsO ?_; first | refine JO_nil ?_ | (refine IsMove ?_; refine M2 rfl rfl rfl ?_) | (refine IsBin ?_; first | refine B1 rfl rfl rfl rfl ?_ | refine B2 rfl rfl rfl rfl ?_ | refine B4 rfl rfl rfl rfl ?_) | (refine IsLoad ?_; first | refine L1 rfl rfl rfl rfl ?_ | refine L2 rfl rfl rfl rfl rfl ?_) | (refine IsStore ?_; refine S1 rfl rfl rfl rfl rfl rfl rfl (fun _ => ?_)) | (refine IsBox ?_; refine N1 rfl rfl rfl rfl (fun _ => ?_)) | (refine IsBuild ?_; refine U1 rfl rfl rfl rfl rfl rfl ?_) | refine V1 rfl rfl rfl ?_) | (refine IsAt ?_; first | (with_reducible first | refine T1 ?_ | refine T3 ?_ | refine T5 ?_ | refine T6 ?_) | ((with_reducible show At _ (PBlock _ _ (Exit.exit _)) _ _); refine At_block_hit ?_)) | (refine IsJ ?_; first | refine J_seq ?_ | refine J_region ?_ | refine J_block ?_ | refine J_skip ?_ | refine J_ret ?_ | refine J_exit ?_ | (refine IsCond ?_; first | refine J_cond_f rfl ?_ | refine K2 rfl ?_ | refine J_cb rfl (fun _ => ?_) (fun _ => ?_))))
    refine JO_l0 (OL_store (i := 8) rfl rfl rfl rfl rfl rfl rfl rfl) rfl ?_
    rintro _ _ rfl
    repeat' (first | (refine IsO ?_; first | refine JO_nil ?_ | (refine IsMove ?_; refine M2 rfl rfl rfl ?_) | (refine IsBin ?_; first | refine B1 rfl rfl rfl rfl ?_ | refine B2 rfl rfl rfl rfl ?_ | refine B4 rfl rfl rfl rfl ?_) | (refine IsLoad ?_; first | refine L1 rfl rfl rfl rfl ?_ | refine L2 rfl rfl rfl rfl rfl ?_) | (refine IsStore ?_; refine S1 rfl rfl rfl rfl rfl rfl rfl (fun _ => ?_)) | (refine IsBox ?_; refine N1 rfl rfl rfl rfl (fun _ => ?_)) | (refine IsBuild ?_; refine U1 rfl rfl rfl rfl rfl rfl ?_) | refine V1 rfl rfl rfl ?_) | (refine IsAt ?_; first | (with_reducible first | refine T1 ?_ | refine T3 ?_ | refine T5 ?_ | refine T6 ?_) | ((with_reducible show At _ (PBlock _ _ (Exit.exit _)) _ _); refine At_block_hit ?_)) | (refine IsJ ?_; first | refine J_seq ?_ | refine J_region ?_ | refine J_block ?_ | refine J_skip ?_ | refine J_ret ?_ | refine J_exit ?_ | (refine IsCond ?_; first | refine J_cond_f rfl ?_ | refine K2 rfl ?_ | refine J_cb rfl (fun _ => ?_) (fun _ => ?_))))
    refine J_loop (α := Nat × List WX × Option Addr × Nat) (fun x => x.1 ≤ wk ∧ x.2.1.length = x.1 ∧ ∀ (j : Nat) (y : WX), x.2.1[j]? = some y → y = wk0 j y.c)
      (fun x => [(10, ptr pf 0), (11, ptr ps 0), (85, .int .i64 wk), (86, .int .i64 x.1)])
      (fun x => blk ps [ptr pf 0, ptr p 0, ptr pw 0, ptr pz 0, .slice x.2.2.1 x.1 x.2.2.2, .int .i64 pv, .int .i64 0, .int .i64 0] 99 :: row 107 1 x.2.2.1 x.1 x.2.2.2 (wkP x.2.1) :: bigM (wkH ps) x.2.1 ::
        cellsZ pz bz (List.replicate (3 + nR) 0) :: cellsZ pw bw2 ws :: (heapL p bw bs q ws T st ++ (blk pf (fwdV p pm w bst bf nR) 106 :: (marksL pm bm q ms ++ regL bst bf rs fs))))
      (fun x => wk - x.1) (0, [], none, 0) ⟨Nat.zero_le _, rfl, fun j y hy => by cases hy⟩ (by repeat (first | exact True.intro | refine And.intro rfl ?_)) (fun H hl => ?_) ?_
    · have h1 := Stars.pick (is := [1, 1, 1, 0, 0, 1, 1, 1, 1, 1, 1, 1, 1, 1]) (kp := cellsL pz bz none 0 (List.replicate (3 + nR) 0) [] ++ (blk ps [ptr pf 0, ptr p 0, ptr pw 0, ptr pz 0, .slice none 0 0, .int .i64 pv, .int .i64 0, .int .i64 0] 99 :: cellsZ pw bw2 ws :: (heapL p bw bs q ws T st ++ (blk pf (fwdV p pm w bst bf nR) 106 :: (marksL pm bm q ms ++ regL bst bf rs fs))))) rfl hl
      have h2 := row_nil (T := 107) (sz := 1) (bigM_nil (f := wkH ps) (cellsZ_in (Nat.zero_le _) h1))
      exact h2.pick (is := [3, 0, 0, 0, 0, 0, 0, 0, 0, 0, 0, 0, 0, 0]) rfl
    rintro ⟨k, xs, wa, wc⟩ ⟨hk, hxl, hxs⟩
    dsimp only at hk hxl hxs ⊢
    repeat' (first | (refine IsO ?_; first | refine JO_nil ?_ | (refine IsMove ?_; refine M2 rfl rfl rfl ?_) | (refine IsBin ?_; first | refine B1 rfl rfl rfl rfl ?_ | refine B2 rfl rfl rfl rfl ?_ | refine B4 rfl rfl rfl rfl ?_) | (refine IsLoad ?_; first | refine L1 rfl rfl rfl rfl ?_ | refine L2 rfl rfl rfl rfl rfl ?_) | (refine IsStore ?_; refine S1 rfl rfl rfl rfl rfl rfl rfl (fun _ => ?_)) | (refine IsBox ?_; refine N1 rfl rfl rfl rfl (fun _ => ?_)) | (refine IsBuild ?_; refine U1 rfl rfl rfl rfl rfl rfl ?_) | refine V1 rfl rfl rfl ?_) | (refine IsAt ?_; first | (with_reducible first | refine T1 ?_ | refine T3 ?_ | refine T5 ?_ | refine T6 ?_) | ((with_reducible show At _ (PBlock _ _ (Exit.exit _)) _ _); refine At_block_hit ?_)) | (refine IsJ ?_; first | refine J_seq ?_ | refine J_region ?_ | refine J_skip ?_ | refine J_ret ?_ | refine J_exit ?_ | (refine IsCond ?_; first | refine J_cond_f rfl ?_ | refine K2 rfl ?_ | refine J_cb rfl (fun _ => ?_) (fun _ => ?_))))
    · refine J_block ?_
      repeat' (first | (refine IsO ?_; first | refine JO_nil ?_ | (refine IsMove ?_; refine M2 rfl rfl rfl ?_) | (refine IsBin ?_; first | refine B1 rfl rfl rfl rfl ?_ | refine B2 rfl rfl rfl rfl ?_ | refine B4 rfl rfl rfl rfl ?_) | (refine IsLoad ?_; first | refine L1 rfl rfl rfl rfl ?_ | refine L2 rfl rfl rfl rfl rfl ?_) | (refine IsStore ?_; refine S1 rfl rfl rfl rfl rfl rfl rfl (fun _ => ?_)) | (refine IsBox ?_; refine N1 rfl rfl rfl rfl (fun _ => ?_)) | (refine IsBuild ?_; refine U1 rfl rfl rfl rfl rfl rfl ?_) | refine V1 rfl rfl rfl ?_) | (refine IsAt ?_; first | (with_reducible first | refine T1 ?_ | refine T3 ?_ | refine T5 ?_ | refine T6 ?_) | ((with_reducible show At _ (PBlock _ _ (Exit.exit _)) _ _); refine At_block_hit ?_)) | (refine IsJ ?_; first | refine J_seq ?_ | refine J_region ?_ | refine J_block ?_ | refine J_skip ?_ | refine J_ret ?_ | refine J_exit ?_ | (refine IsCond ?_; first | refine J_cond_f rfl ?_ | refine K2 rfl ?_ | refine J_cb rfl (fun _ => ?_) (fun _ => ?_))))
      rename_i c0
      refine JO_l (OL_buildSlice (cs := [ptr c0 0]) rfl rfl rfl rfl rfl rfl rfl rfl) rfl rfl ?_
      rintro _ _ ⟨b, rfl, rfl⟩
      repeat' (first | (refine IsO ?_; first | refine JO_nil ?_ | (refine IsMove ?_; refine M2 rfl rfl rfl ?_) | (refine IsBin ?_; first | refine B1 rfl rfl rfl rfl ?_ | refine B2 rfl rfl rfl rfl ?_ | refine B4 rfl rfl rfl rfl ?_) | (refine IsLoad ?_; first | refine L1 rfl rfl rfl rfl ?_ | refine L2 rfl rfl rfl rfl rfl ?_) | (refine IsStore ?_; refine S1 rfl rfl rfl rfl rfl rfl rfl (fun _ => ?_)) | (refine IsBox ?_; refine N1 rfl rfl rfl rfl (fun _ => ?_)) | (refine IsBuild ?_; refine U1 rfl rfl rfl rfl rfl rfl ?_) | refine V1 rfl rfl rfl ?_) | (refine IsAt ?_; first | (with_reducible first | refine T1 ?_ | refine T3 ?_ | refine T5 ?_ | refine T6 ?_) | ((with_reducible show At _ (PBlock _ _ (Exit.exit _)) _ _); refine At_block_hit ?_)) | (refine IsJ ?_; first | refine J_seq ?_ | refine J_region ?_ | refine J_block ?_ | refine J_skip ?_ | refine J_ret ?_ | refine J_exit ?_ | (refine IsCond ?_; first | refine J_cond_f rfl ?_ | refine K2 rfl ?_ | refine J_cb rfl (fun _ => ?_) (fun _ => ?_))))
      refine JO_l (OL_append rfl rfl rfl rfl rfl P3 ((Reads.blk rfl).src (.head _)) rfl rfl (fun _ h => by cases h) (by omega) (by omega) (by decide)) rfl rfl ?_
      rintro _ _ ⟨a', cap', rfl, rfl⟩
      repeat' (first | (refine IsO ?_; first | refine JO_nil ?_ | (refine IsMove ?_; refine M2 rfl rfl rfl ?_) | (refine IsBin ?_; first | refine B1 rfl rfl rfl rfl ?_ | refine B2 rfl rfl rfl rfl ?_ | refine B4 rfl rfl rfl rfl ?_) | (refine IsLoad ?_; first | refine L1 rfl rfl rfl rfl ?_ | refine L2 rfl rfl rfl rfl rfl ?_) | (refine IsStore ?_; refine S1 rfl rfl rfl rfl rfl rfl rfl (fun _ => ?_)) | (refine IsBox ?_; refine N1 rfl rfl rfl rfl (fun _ => ?_)) | (refine IsBuild ?_; refine U1 rfl rfl rfl rfl rfl rfl ?_) | refine V1 rfl rfl rfl ?_) | (refine IsAt ?_; first | (with_reducible first | refine T1 ?_ | refine T3 ?_ | refine T5 ?_ | refine T6 ?_) | ((with_reducible show At _ (PBlock _ _ (Exit.exit _)) _ _); refine At_block_hit ?_)) | (refine IsJ ?_; first | refine J_seq ?_ | refine J_region ?_ | refine J_block ?_ | refine J_skip ?_ | refine J_ret ?_ | refine J_exit ?_ | (refine IsCond ?_; first | refine J_cond_f rfl ?_ | refine K2 rfl ?_ | refine J_cb rfl (fun _ => ?_) (fun _ => ?_))))
      refine At_round (k + 1, xs ++ [wk0 k c0], a', cap') (by show wk - (k + 1) < wk - k; omega) ⟨by show k + 1 ≤ wk; omega, by simp [hxl], fun j y hy => ?_⟩ (by repeat (first | exact True.intro | refine And.intro rfl ?_)) (fun H hl => ?_)
      · by_cases e : j = xs.length
        · subst e
          rw [List.getElem?_append_right (Nat.le_refl _)] at hy
          simp at hy
          rw [← hy, hxl]
        · have hjl : j < xs.length := by
            have := (List.getElem?_eq_some_iff.1 hy).1
            rw [List.length_append, List.length_singleton] at this
            omega
          rw [List.getElem?_append_left hjl] at hy
          exact hxs j y hy
      · have h1 := hl.pick (l := _) (is := [3, 3, 0, 0, 1, 1, 1, 1, 1, 1, 1, 1, 1, 1, 1]) rfl
        have h2 := Stars.shut (ps := wkL ps (wk0 k c0)) ((rowz_nil (T := 3) (sz := 1) (a := none) (rowz_nil (T := 3) (sz := 1) (a := none) h1)).pick (l := _) (is := [2, 0, 0, 0, 0, 0, 0, 0, 0, 0, 0, 0, 0, 0, 0, 0, 0]) rfl)
        have h3 := (bigM.snoc (f := wkH ps) (x := wk0 k c0) h2).pick (l := _) (is := [1, 1, 0, 0, 0, 0, 0, 0, 0, 0, 0, 0, 0, 0]) rfl
        rw [show wkP (xs ++ [wk0 k c0]) = wkP xs ++ [ptr c0 0] by simp [wkP]]
        exact h3
    · have hke : k = wk := by omega
      subst hke
      repeat' (first | (refine IsO ?_; first | refine JO_nil ?_ | (refine IsMove ?_; refine M2 rfl rfl rfl ?_) | (refine IsBin ?_; first | refine B1 rfl rfl rfl rfl ?_ | refine B2 rfl rfl rfl rfl ?_ | refine B4 rfl rfl rfl rfl ?_) | (refine IsLoad ?_; first | refine L1 rfl rfl rfl rfl ?_ | refine L2 rfl rfl rfl rfl rfl ?_) | (refine IsStore ?_; refine S1 rfl rfl rfl rfl rfl rfl rfl (fun _ => ?_)) | (refine IsBox ?_; refine N1 rfl rfl rfl rfl (fun _ => ?_)) | (refine IsBuild ?_; refine U1 rfl rfl rfl rfl rfl rfl ?_) | refine V1 rfl rfl rfl ?_) | (refine IsAt ?_; first | (with_reducible first | refine T1 ?_ | refine T3 ?_ | refine T5 ?_ | refine T6 ?_) | ((with_reducible show At _ (PBlock _ _ (Exit.exit _)) _ _); refine At_block_hit ?_)) | (refine IsJ ?_; first | refine J_seq ?_ | refine J_region ?_ | refine J_block ?_ | refine J_skip ?_ | refine J_ret ?_ | refine J_exit ?_ | (refine IsCond ?_; first | refine J_cond_f rfl ?_ | refine K2 rfl ?_ | refine J_cb rfl (fun _ => ?_) (fun _ => ?_))))
      subst hpv
      exact At_ret rfl rfl (.tmp rfl (.tmp rfl .nil)) rfl (is := [0, 0, 0, 0, 0, 0, 0, 0, 0, 0, 0, 0, 0, 0]) rfl ⟨ps, pf, w, nR, bst, bf, pw, bw2, pz, bz, rs, fs, wa, wc, xs, hw2', hF, hnR, hxl, hxs, rfl, by subst hxl; rfl⟩
end ops
end Go.Proofs.Ytahfnbpbdnmggaa
/-
  Our own: slider: Touches, Moved, Over.
-/
set_option linter.unusedVariables false
set_option linter.unusedSimpArgs false
namespace Go.Proofs.Ytahfnbpbdnmggaa
open Go.Sep
section ops
variable {ps pf p bw bs pm bm bst bf n T w nR pw bw2 pz bz : Nat} {ws : List Int} {st : List Bool} {ms : List Nat} {rs : List RG} {fs : List Int} {wds sts : List Int} {wa : Option Addr} {wc : Nat} {xs : List WX} {pv mv tv : Int}
theorem SlTouches : Does Try.prog 15 [ptr ps 0] (sldZ ps pf p bw bs pm bm bst bf n T w nR pw bw2 pz bz ws st ms rs fs wds sts wa wc xs pv mv tv)
    (fun v l => v = .int .i64 tv ∧ l = sldZ ps pf p bw bs pm bm bst bf n T w nR pw bw2 pz bz ws st ms rs fs wds sts wa wc xs pv mv tv) := by
  refine Does.of tiok Try.func15 (by kernel_rfl) rfl Try.ntmps15 rfl ?_
  intro W fr
  repeat' (first | (refine IsO ?_; first | refine JO_nil ?_ | (refine IsLoad ?_; refine L1 rfl rfl rfl rfl ?_) | refine V1 rfl rfl rfl ?_) | (refine IsAt ?_; (with_reducible refine T1 ?_)) | (refine IsJ ?_; first | refine J_seq ?_ | refine J_region ?_ | refine J_ret ?_))
  exact At_ret rfl rfl (.tmp rfl .nil) rfl (is := [0, 0, 0, 0, 0, 0, 0, 0, 0, 0, 0, 0, 0, 0]) rfl ⟨rfl, rfl⟩
theorem SlMoved : Does Try.prog 16 [ptr ps 0] (sldZ ps pf p bw bs pm bm bst bf n T w nR pw bw2 pz bz ws st ms rs fs wds sts wa wc xs pv mv tv)
    (fun v l => v = .int .i64 mv ∧ l = sldZ ps pf p bw bs pm bm bst bf n T w nR pw bw2 pz bz ws st ms rs fs wds sts wa wc xs pv mv tv) := by
  refine Does.of tiok Try.func16 (by kernel_rfl) rfl Try.ntmps16 rfl ?_
  intro W fr
  repeat' (first | (refine IsO ?_; first | refine JO_nil ?_ | (refine IsLoad ?_; refine L1 rfl rfl rfl rfl ?_) | refine V1 rfl rfl rfl ?_) | (refine IsAt ?_; (with_reducible refine T1 ?_)) | (refine IsJ ?_; first | refine J_seq ?_ | refine J_region ?_ | refine J_ret ?_))
  exact At_ret rfl rfl (.tmp rfl .nil) rfl (is := [0, 0, 0, 0, 0, 0, 0, 0, 0, 0, 0, 0, 0, 0]) rfl ⟨rfl, rfl⟩
/-- All regions are done and all noughts laid. -/
def OverP (sts : List Int) (nR : Nat) (pv : Int) : Prop := (∀ (k : Nat) (y : Int), k < nR → sts[3 + k]? = some y → y ≠ 0) ∧ sts[2]? = some pv
set_option maxHeartbeats 8000000 in
theorem Over_spec (hs : sts.length = 3 + nR) (hn : nR ≤ 60000) : Does Try.prog 20 [ptr ps 0] (sldZ ps pf p bw bs pm bm bst bf n T w nR pw bw2 pz bz ws st ms rs fs wds sts wa wc xs pv mv tv)
    (fun v l => ∃ t : Bool, (t = true ↔ OverP sts nR pv) ∧ v = .bool t ∧ l = sldZ ps pf p bw bs pm bm bst bf n T w nR pw bw2 pz bz ws st ms rs fs wds sts wa wc xs pv mv tv) := by
  refine Does.of tiok Try.func20 (by kernel_rfl) rfl Try.ntmps20 rfl ?_
  intro W fr
  repeat' (first | (refine IsO ?_; first | refine JO_nil ?_ | (refine IsBin ?_; refine B1 rfl rfl rfl rfl ?_) | (refine IsLoad ?_; first | refine L1 rfl rfl rfl rfl ?_ | refine L2 rfl rfl rfl rfl rfl ?_) | refine V1 rfl rfl rfl ?_) | (refine IsAt ?_; first | (with_reducible first | refine T1 ?_ | refine T2 ?_ | refine T3 ?_ | refine T4 ?_ | refine T5 ?_ | refine T6 ?_ | refine T7 ?_) | ((with_reducible show At _ (PBlock _ _ (Exit.exit _)) _ _); refine At_block_hit ?_)) | (refine IsJ ?_; first | refine J_seq ?_ | refine J_region ?_ | refine J_block ?_ | refine J_skip ?_ | refine J_ret ?_ | refine J_exit ?_ | (refine IsCond ?_; refine J_cb rfl (fun _ => ?_) (fun _ => ?_))))
  refine JO_l (OL_call [3] rfl rfl rfl (CellsWords_z (p := pz) (bw := bz) (ws := sts) (by omega)) rfl) rfl rfl ?_
  rintro _ _ ⟨_, ⟨a0, cap0, hn0, rfl, rfl⟩, rfl⟩
  repeat' (first | (refine IsO ?_; first | refine JO_nil ?_ | (refine IsBin ?_; refine B1 rfl rfl rfl rfl ?_) | (refine IsLoad ?_; first | refine L1 rfl rfl rfl rfl ?_ | refine L2 rfl rfl rfl rfl rfl ?_) | refine V1 rfl rfl rfl ?_) | (refine IsAt ?_; first | (with_reducible first | refine T1 ?_ | refine T2 ?_ | refine T3 ?_ | refine T4 ?_ | refine T5 ?_ | refine T6 ?_ | refine T7 ?_) | ((with_reducible show At _ (PBlock _ _ (Exit.exit _)) _ _); refine At_block_hit ?_)) | (refine IsJ ?_; first | refine J_seq ?_ | refine J_region ?_ | refine J_block ?_ | refine J_skip ?_ | refine J_ret ?_ | refine J_exit ?_ | (refine IsCond ?_; refine J_cb rfl (fun _ => ?_) (fun _ => ?_))))
  refine JO_l (OL_call [] rfl rfl rfl (RegLen_spec (w := w) (bst := bst) (bf := bf) (nR := nR)) rfl) rfl rfl ?_
  rintro _ _ ⟨_, ⟨rfl, rfl⟩, rfl⟩
  repeat' (first | (refine IsO ?_; first | refine JO_nil ?_ | (refine IsBin ?_; refine B1 rfl rfl rfl rfl ?_) | (refine IsLoad ?_; first | refine L1 rfl rfl rfl rfl ?_ | refine L2 rfl rfl rfl rfl rfl ?_) | refine V1 rfl rfl rfl ?_) | (refine IsAt ?_; first | (with_reducible first | refine T1 ?_ | refine T2 ?_ | refine T3 ?_ | refine T4 ?_ | refine T5 ?_ | refine T6 ?_ | refine T7 ?_) | ((with_reducible show At _ (PBlock _ _ (Exit.exit _)) _ _); refine At_block_hit ?_)) | (refine IsJ ?_; first | refine J_seq ?_ | refine J_region ?_ | refine J_block ?_ | refine J_skip ?_ | refine J_ret ?_ | refine J_exit ?_ | (refine IsCond ?_; refine J_cb rfl (fun _ => ?_) (fun _ => ?_))))
  refine J_rowzf P0 fun hr => ?_
  have hRw := Reads.rowz (T := 3) hr.1 hr.2.1
  refine J_fact _ (fun w hs2 => hRw.some (by omega) hs2 (by repeat (first | exact .head _ | refine .tail _ ?_))) ?_
  rintro ⟨b2, o2, rfl⟩
  refine J_loop (α := Nat) (fun q => q ≤ nR ∧ ∀ (k : Nat) (y : Int), k < q → sts[3 + k]? = some y → y ≠ 0)
    (fun q => [(0, ptr ps 0), (3, .slice (some ⟨b2, o2, none⟩) sts.length cap0), (17, .int .i64 nR), (18, .int .i64 q)])
    (fun q => rowz 3 1 (some ⟨b2, o2, none⟩) sts.length cap0 (intsV sts) :: cellsZ pz bz sts :: (blk ps [ptr pf 0, ptr p 0, ptr pw 0, ptr pz 0, .slice wa xs.length wc, .int .i64 pv, .int .i64 mv, .int .i64 tv] 99 :: row 107 1 wa xs.length wc (wkP xs) :: bigM (wkH ps) xs ::
      cellsZ pw bw2 wds :: (heapL p bw bs n ws T st ++ (blk pf (fwdV p pm w bst bf nR) 106 :: (marksL pm bm n ms ++ regL bst bf rs fs))))) (fun q => nR - q) 0 ⟨Nat.zero_le _, fun k y hk => absurd hk (Nat.not_lt_zero _)⟩ (by repeat (first | exact True.intro | refine And.intro rfl ?_)) (fun H hl => hl) ?_
  rintro q ⟨hq, hI⟩
  repeat' (first | (refine IsO ?_; first | refine JO_nil ?_ | (refine IsBin ?_; refine B1 rfl rfl rfl rfl ?_) | (refine IsLoad ?_; first | refine L1 rfl rfl rfl rfl ?_ | refine L2 rfl rfl rfl rfl rfl ?_) | refine V1 rfl rfl rfl ?_) | (refine IsAt ?_; first | (with_reducible first | refine T1 ?_ | refine T2 ?_ | refine T3 ?_ | refine T4 ?_ | refine T5 ?_ | refine T6 ?_ | refine T7 ?_) | ((with_reducible show At _ (PBlock _ _ (Exit.exit _)) _ _); refine At_block_hit ?_)) | (refine IsJ ?_; first | refine J_seq ?_ | refine J_region ?_ | refine J_skip ?_ | refine J_ret ?_ | refine J_exit ?_ | (refine IsCond ?_; refine J_cb rfl (fun _ => ?_) (fun _ => ?_))))
  · rename_i hlt
    refine J_block ?_
    obtain ⟨y, hy⟩ : ∃ y, sts[3 + q]? = some y := ⟨sts[3 + q]'(by omega), List.getElem?_eq_getElem _⟩
    repeat' (first | (refine IsO ?_; first | refine JO_nil ?_ | (refine IsBin ?_; refine B1 rfl rfl rfl rfl ?_) | (refine IsLoad ?_; first | refine L1 rfl rfl rfl rfl ?_ | refine L2 rfl rfl rfl rfl rfl ?_) | refine V1 rfl rfl rfl ?_) | (refine IsAt ?_; first | (with_reducible first | refine T1 ?_ | refine T2 ?_ | refine T3 ?_ | refine T4 ?_ | refine T5 ?_ | refine T6 ?_ | refine T7 ?_) | ((with_reducible show At _ (PBlock _ _ (Exit.exit _)) _ _); refine At_block_hit ?_)) | (refine IsJ ?_; first | refine J_seq ?_ | refine J_region ?_ | refine J_block ?_ | refine J_skip ?_ | refine J_ret ?_ | refine J_exit ?_ | (refine IsCond ?_; refine J_cb rfl (fun _ => ?_) (fun _ => ?_))))
    rw [show (3 : Int) + (q : Int) = ((3 + q : Nat) : Int) by omega]
    refine JO_val (OV_idx (off := o2 + (3 + q)) rfl rfl rfl rfl (by omega) (by omega) (by simp; omega)) rfl rfl ?_
    refine JO_q (OQ_read (i := 3 + q) (v := .int .i64 y) hRw (.head _) rfl rfl (by omega) (by simp [intsV, hy])) rfl rfl ?_
    repeat' (first | (refine IsO ?_; first | refine JO_nil ?_ | (refine IsBin ?_; refine B1 rfl rfl rfl rfl ?_) | (refine IsLoad ?_; first | refine L1 rfl rfl rfl rfl ?_ | refine L2 rfl rfl rfl rfl rfl ?_) | refine V1 rfl rfl rfl ?_) | (refine IsAt ?_; first | (with_reducible first | refine T1 ?_ | refine T2 ?_ | refine T3 ?_ | refine T4 ?_ | refine T5 ?_ | refine T6 ?_ | refine T7 ?_) | ((with_reducible show At _ (PBlock _ _ (Exit.exit _)) _ _); refine At_block_hit ?_)) | (refine IsJ ?_; first | refine J_seq ?_ | refine J_region ?_ | refine J_block ?_ | refine J_skip ?_ | refine J_ret ?_ | refine J_exit ?_ | (refine IsCond ?_; refine J_cb rfl (fun _ => ?_) (fun _ => ?_))))
    · rename_i h0
      exact At_ret rfl rfl (.tmp rfl .nil) rfl (is := [2, 2, 2, 1, 1, 1, 1, 1, 1, 1, 1, 1, 1, 1]) rfl ⟨false, ⟨fun e => absurd e (by decide), fun e => absurd h0 (e.1 q y (by omega) hy)⟩, rfl, rfl⟩
    · rename_i h0
      refine At_round (q + 1) (by show nR - (q + 1) < nR - q; omega) ⟨by omega, fun k y' hk hy' => ?_⟩ (by repeat (first | exact True.intro | refine And.intro rfl ?_)) (fun H hl => hl)
      by_cases e : k = q
      · subst e
        rw [hy] at hy'; injection hy' with hy'; subst hy'; exact h0
      · exact hI k y' (by omega) hy'
  · have hqe : q = nR := by omega
    subst hqe
    obtain ⟨y, hy⟩ : ∃ y, sts[2]? = some y := ⟨sts[2]'(by omega), List.getElem?_eq_getElem _⟩
    repeat' (first | (refine IsO ?_; first | refine JO_nil ?_ | (refine IsBin ?_; refine B1 rfl rfl rfl rfl ?_) | (refine IsLoad ?_; first | refine L1 rfl rfl rfl rfl ?_ | refine L2 rfl rfl rfl rfl rfl ?_) | refine V1 rfl rfl rfl ?_) | (refine IsAt ?_; first | (with_reducible first | refine T1 ?_ | refine T2 ?_ | refine T3 ?_ | refine T4 ?_ | refine T5 ?_ | refine T6 ?_ | refine T7 ?_) | ((with_reducible show At _ (PBlock _ _ (Exit.exit _)) _ _); refine At_block_hit ?_)) | (refine IsJ ?_; first | refine J_seq ?_ | refine J_region ?_ | refine J_block ?_ | refine J_skip ?_ | refine J_ret ?_ | refine J_exit ?_ | (refine IsCond ?_; refine J_cb rfl (fun _ => ?_) (fun _ => ?_))))
    refine J_draw [0, 0, 1, 0, 0, 0, 1, 0, 0] (List.range 9) (by kernel_rfl) (by kernel_rfl) ?_
    repeat' (refine IsX ?_; first | (refine JX_nil ?_; refine At_np ?_) | (refine JX_op rfl ?_; refine XsO ?_; first | (refine XsLoad ?_; refine XL1 rfl rfl rfl rfl rfl ?_) | refine XV1 rfl rfl rfl rfl ?_))
    refine JX_val rfl rfl (OV_idx (off := o2 + 2) rfl rfl rfl rfl (by omega) (by omega) (by simp)) rfl rfl ?_
    refine JX_q rfl rfl (OQ_read (i := 2) (v := .int .i64 y) hRw (.head _) rfl rfl (by omega) (by simp [intsV, hy])) rfl rfl ?_
    repeat' (refine IsX ?_; first | (refine JX_nil ?_; refine At_np ?_) | (refine JX_op rfl ?_; refine XsO ?_; first | (refine XsLoad ?_; refine XL1 rfl rfl rfl rfl rfl ?_) | refine XV1 rfl rfl rfl rfl ?_))
    repeat' (first | (refine IsO ?_; first | refine JO_nil ?_ | (refine IsBin ?_; refine B1 rfl rfl rfl rfl ?_) | (refine IsLoad ?_; first | refine L1 rfl rfl rfl rfl ?_ | refine L2 rfl rfl rfl rfl rfl ?_) | refine V1 rfl rfl rfl ?_) | (refine IsAt ?_; first | (with_reducible first | refine T1 ?_ | refine T2 ?_ | refine T3 ?_ | refine T4 ?_ | refine T5 ?_ | refine T6 ?_ | refine T7 ?_) | ((with_reducible show At _ (PBlock _ _ (Exit.exit _)) _ _); refine At_block_hit ?_)) | (refine IsJ ?_; first | refine J_seq ?_ | refine J_region ?_ | refine J_block ?_ | refine J_skip ?_ | refine J_ret ?_ | refine J_exit ?_ | (refine IsCond ?_; refine J_cb rfl (fun _ => ?_) (fun _ => ?_))))
    refine At_ret rfl rfl (.tmp rfl .nil) rfl (is := [2, 2, 2, 1, 1, 1, 1, 1, 1, 1, 1, 1, 1, 1]) rfl ⟨decide (y = pv), ?_, rfl, rfl⟩
    rw [decide_eq_true_iff]
    exact ⟨fun e => ⟨hI, by rw [hy, e]⟩, fun e => by have := e.2; rw [hy] at this; injection this⟩
/-- The worker is not one of them. -/
theorem SlStep_range {who : Int} (hw : ¬ (0 ≤ who ∧ who < xs.length)) : Does Try.prog 21 [ptr ps 0, .int .i64 who] (sldZ ps pf p bw bs pm bm bst bf n T w nR pw bw2 pz bz ws st ms rs fs wds sts wa wc xs pv mv tv)
    (fun v l => v = .int .i64 1 ∧ l = sldZ ps pf p bw bs pm bm bst bf n T w nR pw bw2 pz bz ws st ms rs fs wds sts wa wc xs pv mv tv) := by
  refine Does.of tiok Try.func21 (by kernel_rfl) rfl Try.ntmps21 rfl ?_
  intro W fr
  rcases (by omega : who < 0 ∨ (0 ≤ who ∧ (xs.length : Int) ≤ who)) with h | ⟨h1, h2⟩
  · repeat' (first | (refine IsO ?_; first | refine JO_nil ?_ | (refine IsG ?_; refine G1 rfl rfl ?_) | (refine IsMove ?_; first | refine M1 rfl rfl rfl ?_ | refine M2 rfl rfl rfl ?_) | (refine IsLoad ?_; refine L1 rfl rfl rfl rfl ?_) | refine V1 rfl rfl rfl ?_) | (refine IsAt ?_; (with_reducible first | refine T1 ?_ | refine T2 ?_ | refine T4 ?_)) | (refine IsJ ?_; first | refine J_seq ?_ | refine J_region ?_ | refine J_block ?_ | refine J_ret ?_ | (refine IsCond ?_; first | refine J_cond_t rfl ?_ | refine K1 rfl ?_)))
    exact At_ret rfl rfl (.tmp rfl .nil) rfl (is := [0, 0, 0, 0, 0, 0, 0, 0, 0, 0, 0, 0, 0, 0]) rfl ⟨rfl, rfl⟩
  · repeat' (first | (refine IsO ?_; first | refine JO_nil ?_ | (refine IsG ?_; refine G1 rfl rfl ?_) | (refine IsMove ?_; first | refine M1 rfl rfl rfl ?_ | refine M2 rfl rfl rfl ?_) | (refine IsLoad ?_; refine L1 rfl rfl rfl rfl ?_) | refine V1 rfl rfl rfl ?_) | (refine IsAt ?_; (with_reducible first | refine T1 ?_ | refine T2 ?_ | refine T4 ?_)) | (refine IsJ ?_; first | refine J_seq ?_ | refine J_region ?_ | refine J_block ?_ | refine J_ret ?_ | (refine IsCond ?_; first | refine J_cond_t rfl ?_ | refine K1 rfl ?_)))
    exact At_ret rfl rfl (.tmp rfl .nil) rfl (is := [0, 0, 0, 0, 0, 0, 0, 0, 0, 0, 0, 0, 0, 0]) rfl ⟨rfl, rfl⟩
/-- It is over. -/
theorem SlStep_end {who : Int} (hw : 0 ≤ who ∧ who < xs.length) (hs : sts.length = 3 + nR) (hn : nR ≤ 60000) (ho : OverP sts nR pv) : Does Try.prog 21 [ptr ps 0, .int .i64 who] (sldZ ps pf p bw bs pm bm bst bf n T w nR pw bw2 pz bz ws st ms rs fs wds sts wa wc xs pv mv tv)
    (fun v l => v = .int .i64 12 ∧ l = sldZ ps pf p bw bs pm bm bst bf n T w nR pw bw2 pz bz ws st ms rs fs wds sts wa wc xs pv mv tv) := by
  refine Does.of tiok Try.func21 (by kernel_rfl) rfl Try.ntmps21 rfl ?_
  intro W fr
  obtain ⟨h1, h2⟩ := hw
  repeat' (first | (refine IsO ?_; first | refine JO_nil ?_ | (refine IsMove ?_; refine M2 rfl rfl rfl ?_) | (refine IsLoad ?_; refine L1 rfl rfl rfl rfl ?_) | refine V1 rfl rfl rfl ?_) | (refine IsAt ?_; (with_reducible first | refine T1 ?_ | refine T2 ?_ | refine T4 ?_)) | (refine IsJ ?_; first | refine J_seq ?_ | refine J_region ?_ | refine J_block ?_ | refine J_ret ?_ | (refine IsCond ?_; first | refine J_cond_t rfl ?_ | refine K2 rfl ?_)))
  refine JO_l (OL_call [0, 0, 0, 0, 0, 0, 0, 0, 0, 0, 0, 0, 0, 0] rfl rfl rfl (Over_spec hs hn) rfl) rfl rfl ?_
  rintro _ _ ⟨_, ⟨t, ht, rfl, rfl⟩, rfl⟩
  obtain rfl : t = true := ht.2 ho
  repeat' (first | (refine IsO ?_; first | refine JO_nil ?_ | (refine IsMove ?_; refine M2 rfl rfl rfl ?_) | (refine IsLoad ?_; refine L1 rfl rfl rfl rfl ?_) | refine V1 rfl rfl rfl ?_) | (refine IsAt ?_; (with_reducible first | refine T1 ?_ | refine T2 ?_ | refine T4 ?_)) | (refine IsJ ?_; first | refine J_seq ?_ | refine J_region ?_ | refine J_block ?_ | refine J_ret ?_ | (refine IsCond ?_; first | refine J_cond_t rfl ?_ | refine K2 rfl ?_)))
  exact At_ret rfl rfl (.tmp rfl .nil) rfl (is := [0, 0, 0, 0, 0, 0, 0, 0, 0, 0, 0, 0, 0, 0]) rfl ⟨rfl, rfl⟩
end ops
end Go.Proofs.Ytahfnbpbdnmggaa
/-
  Our own: the slider's worker: load, add.
-/
set_option linter.unusedVariables false
set_option linter.unusedSimpArgs false
namespace Go.Proofs.Ytahfnbpbdnmggaa
open Go.Sep
abbrev sdB (ps pf p pw pz : Nat) (wa : Option Addr) (nW wc : Nat) (pv mv tv : Int) : HP := blk ps [ptr pf 0, ptr p 0, ptr pw 0, ptr pz 0, .slice wa nW wc, .int .i64 pv, .int .i64 mv, .int .i64 tv] 99
/-- A worker's cells. -/
abbrev wkR (ps c : Nat) (who : Int) (fn : FuncId) (region : Int) (wv ov : Value) (from_ to size refs at_ word end_ : Int) : HP := blk c [ptr ps 0, .int .i64 who, .func (.func fn) #[] #[], .int .i64 region, wv, ov, .int .i64 from_, .int .i64 to, .int .i64 size, .int .i64 refs, .int .i64 at_, .int .i64 word, .int .i64 end_] 110
section ops
variable {ps pf p pw pz bz nW wc : Nat} {wa : Option Addr} {pv mv tv : Int} {sts : List Int} {c : Nat} {who : Int} {fn : FuncId} {region : Int} {wv ov : Value} {from_ to size refs at_ word end_ : Int}
set_option maxHeartbeats 4000000 in
theorem wLoad {was : Int} (place : Nat) (h1 : 0 ≤ who) (h2 : who < 64) (hwas : sts[place]? = some was) (hs : sts.length ≤ 65536) (ht : In64 (tv + 1)) :
    Does Try.prog 86 [ptr c 0, .int .i64 place] [wkR ps c who fn region wv ov from_ to size refs at_ word end_, sdB ps pf p pw pz wa nW wc pv mv tv, cellsZ pz bz sts]
    (fun v l => v = .int .i64 was ∧ l = [wkR ps c who fn region wv ov from_ to size refs at_ word end_, sdB ps pf p pw pz wa nW wc pv mv (tv + 1), cellsZ pz bz sts]) := by
  obtain ⟨t1, t2⟩ := ht
  refine Does.of tiok Try.func86 (by kernel_rfl) rfl Try.ntmps86 rfl ?_
  intro W fr
  repeat' (first | (refine IsO ?_; first | refine JO_nil ?_ | (refine IsBin ?_; refine B1 rfl rfl rfl rfl ?_) | (refine IsLoad ?_; refine L1 rfl rfl rfl rfl ?_) | (refine IsStore ?_; refine S1 rfl rfl rfl rfl rfl rfl rfl (fun _ => ?_)) | refine V1 rfl rfl rfl ?_) | (refine IsAt ?_; (with_reducible refine T1 ?_)) | (refine IsJ ?_; first | refine J_seq ?_ | refine J_region ?_ | refine J_ret ?_))
  refine J_draw [0, 0, 0, 1, 0, 0, 1, 0, 0, 0, 1, 0, 2, 0, 0, 0, 0, 0] (List.range 18) (by kernel_rfl) (by kernel_rfl) ?_
  repeat' (refine IsX ?_; first | (refine JX_nil ?_; refine At_np ?_) | (refine JX_op rfl ?_; refine XsO ?_; first | (refine XsLoad ?_; refine XL1 rfl rfl rfl rfl rfl ?_) | refine XV1 rfl rfl rfl rfl ?_))
  refine JX_l rfl rfl (OL_call [2] rfl rfl rfl (Load_z (p := pz) (bw := bz) who was place h1 h2 hwas hs) rfl) rfl rfl ?_
  rintro _ _ ⟨_, ⟨rfl, rfl⟩, rfl⟩
  repeat' (refine IsX ?_; first | (refine JX_nil ?_; refine At_np ?_) | (refine JX_op rfl ?_; refine XsO ?_; first | (refine XsLoad ?_; refine XL1 rfl rfl rfl rfl rfl ?_) | refine XV1 rfl rfl rfl rfl ?_))
  repeat' (first | (refine IsO ?_; first | refine JO_nil ?_ | (refine IsBin ?_; refine B1 rfl rfl rfl rfl ?_) | (refine IsLoad ?_; refine L1 rfl rfl rfl rfl ?_) | (refine IsStore ?_; refine S1 rfl rfl rfl rfl rfl rfl rfl (fun _ => ?_)) | refine V1 rfl rfl rfl ?_) | (refine IsAt ?_; (with_reducible refine T1 ?_)) | (refine IsJ ?_; first | refine J_seq ?_ | refine J_region ?_ | refine J_ret ?_))
  exact At_ret rfl rfl (.tmp rfl .nil) rfl (is := [2, 0, 0]) rfl ⟨rfl, rfl⟩
set_option maxHeartbeats 4000000 in
theorem wAdd {was : Int} (place : Nat) (h1 : 0 ≤ who) (h2 : who < 64) (hwas : sts[place]? = some was) (hs : sts.length ≤ 65536) (hb : In64 (was + 1)) (ht : In64 (tv + 1)) :
    Does Try.prog 68 [ptr c 0, .int .i64 place] [wkR ps c who fn region wv ov from_ to size refs at_ word end_, sdB ps pf p pw pz wa nW wc pv mv tv, cellsZ pz bz sts]
    (fun v l => v = .int .i64 was ∧ l = [wkR ps c who fn region wv ov from_ to size refs at_ word end_, sdB ps pf p pw pz wa nW wc pv mv (tv + 1), cellsZ pz bz (sts.set place (was + 1))]) := by
  obtain ⟨t1, t2⟩ := ht
  refine Does.of tiok Try.func68 (by kernel_rfl) rfl Try.ntmps68 rfl ?_
  intro W fr
  repeat' (first | (refine IsO ?_; first | refine JO_nil ?_ | (refine IsBin ?_; refine B1 rfl rfl rfl rfl ?_) | (refine IsLoad ?_; refine L1 rfl rfl rfl rfl ?_) | (refine IsStore ?_; refine S1 rfl rfl rfl rfl rfl rfl rfl (fun _ => ?_)) | refine V1 rfl rfl rfl ?_) | (refine IsAt ?_; (with_reducible refine T1 ?_)) | (refine IsJ ?_; first | refine J_seq ?_ | refine J_region ?_ | refine J_ret ?_))
  refine J_draw [0, 0, 0, 1, 0, 0, 1, 0, 0, 0, 1, 0, 2, 0, 0, 0, 0, 0] (List.range 18) (by kernel_rfl) (by kernel_rfl) ?_
  repeat' (refine IsX ?_; first | (refine JX_nil ?_; refine At_np ?_) | (refine JX_op rfl ?_; refine XsO ?_; first | (refine XsLoad ?_; refine XL1 rfl rfl rfl rfl rfl ?_) | refine XV1 rfl rfl rfl rfl ?_))
  refine JX_l rfl rfl (OL_call [2] rfl rfl rfl (Add_z (p := pz) (bw := bz) who was place h1 h2 hwas hs hb) rfl) rfl rfl ?_
  rintro _ _ ⟨_, ⟨rfl, rfl⟩, rfl⟩
  repeat' (refine IsX ?_; first | (refine JX_nil ?_; refine At_np ?_) | (refine JX_op rfl ?_; refine XsO ?_; first | (refine XsLoad ?_; refine XL1 rfl rfl rfl rfl rfl ?_) | refine XV1 rfl rfl rfl rfl ?_))
  repeat' (first | (refine IsO ?_; first | refine JO_nil ?_ | (refine IsBin ?_; refine B1 rfl rfl rfl rfl ?_) | (refine IsLoad ?_; refine L1 rfl rfl rfl rfl ?_) | (refine IsStore ?_; refine S1 rfl rfl rfl rfl rfl rfl rfl (fun _ => ?_)) | refine V1 rfl rfl rfl ?_) | (refine IsAt ?_; (with_reducible refine T1 ?_)) | (refine IsJ ?_; first | refine J_seq ?_ | refine J_region ?_ | refine J_ret ?_))
  exact At_ret rfl rfl (.tmp rfl .nil) rfl (is := [2, 0, 0]) rfl ⟨rfl, rfl⟩
end ops
end Go.Proofs.Ytahfnbpbdnmggaa
/-
  Our own: the slider's extent and ahead: where a region's objects are, and the regions ahead of one that it waits for.
-/
set_option linter.unusedVariables false
set_option linter.unusedSimpArgs false
namespace Go.Proofs.Ytahfnbpbdnmggaa
open Go.Sep
def exA (B : List RO) : Nat := match B[0]? with
  | none => 0
  | some o => o.i
def exB (B : List RO) : Nat := match B[B.length - 1]? with
  | none => 0
  | some o => o.i + 1 + o.ws.length
abbrev fstI (w : Nat) (L : List RO) (k : Nat) : Nat := szL (befR w k L)
abbrev lvI (w : Nat) (L : List RO) (k : Nat) : Nat := szL (inR w k L)
def ahB (w : Nat) (L : List RO) (k r : Nat) : Bool := decide (exA (inR w r L) < fstI w L k + lvI w L k) && decide (fstI w L k < exB (inR w r L))
def ahL (w : Nat) (L : List RO) (k n : Nat) : List Int := ((List.range n).filter (ahB w L k)).map fun (r : Nat) => (r : Int)
theorem ahL_next {w : Nat} {L : List RO} {k n : Nat} : ahL w L k (n + 1) = ahL w L k n ++ (if ahB w L k n then [(n : Int)] else []) := by
  unfold ahL
  rw [List.range_succ, List.filter_append, List.map_append]
  cases h : ahB w L k n <;> simp [h]
theorem ahL_len {w : Nat} {L : List RO} {k n : Nat} : (ahL w L k n).length ≤ n := by
  unfold ahL
  rw [List.length_map]
  have := List.length_filter_le (ahB w L k) (List.range n)
  rw [List.length_range] at this
  exact this
theorem inR_os {w k j : Nat} {ms : List Nat} {os : List RO} {o : RO} (h : (inR w k (lvs ms os))[j]? = some o) : ∃ i : Nat, os[i]? = some o ∧ lvB ms o = true ∧ o.i / w = k := by
  have h1 := List.mem_of_getElem? h
  obtain ⟨h2, h3⟩ := List.mem_filter.1 h1
  obtain ⟨h4, h5⟩ := List.mem_filter.1 h2
  obtain ⟨i, hi⟩ := List.getElem?_of_mem h4
  exact ⟨i, hi, h5, of_decide_eq_true h3⟩
section ops
variable {ps pf p bw bs pm bm bst bf n T w nR pw pz nW wc : Nat} {wa : Option Addr} {pv mv tv : Int} {ws : List Int} {st : List Bool} {os : List RO} {ms : List Nat} {rs : List RG} {fs : List Int}
set_option maxHeartbeats 8000000 in
theorem Extent_spec (h : HT n T ws st) (hc : Ch ws 0 os T) (hF : RF w nR (lvs ms os) rs fs) (k : Nat) (hk : k < nR) :
    Does Try.prog 89 [ptr ps 0, .int .i64 k] (sdB ps pf p pw pz wa nW wc pv mv tv :: fwdL pf p bw bs pm bm bst bf n T w nR ws st ms rs fs)
    (fun v l => v = .tuple #[.int .i64 (exA (inR w k (lvs ms os)) : Nat), .int .i64 (exB (inR w k (lvs ms os)) : Nat)] ∧ l = sdB ps pf p pw pz wa nW wc pv mv tv :: fwdL pf p bw bs pm bm bst bf n T w nR ws st ms rs fs) := by
  have hrl := hF.rl
  obtain ⟨r, hr⟩ : ∃ r, rs[k]? = some r := ⟨rs[k]'(by omega), List.getElem?_eq_getElem _⟩
  have hrc := hF.rc k r hr
  have hcl := hF.clen hr
  obtain ⟨B, hB⟩ : ∃ B, B = inR w k (lvs ms os) := ⟨_, rfl⟩
  have hlen : r.c.length = B.length := by rw [hrc, hB]; unfold stI; rw [List.length_map]
  have hget : ∀ (j : Nat) (o : RO), B[j]? = some o → r.c[j]? = some (o.i : Int) := by
    intro j o ho
    rw [hrc]
    unfold stI
    rw [List.getElem?_map, ← hB, ho]; rfl
  rw [← hB]
  have hBo : ∀ (j : Nat) (o : RO), B[j]? = some o → ∃ i : Nat, os[i]? = some o := fun j o ho => by
    rw [hB] at ho
    obtain ⟨i, hi, _⟩ := inR_os ho
    exact ⟨i, hi⟩
  have htn := h.tn
  have hnb := h.nb
  refine Does.of tiok Try.func89 (by kernel_rfl) rfl Try.ntmps89 rfl ?_
  intro W fr
  repeat' (first | (refine IsO ?_; first | refine JO_nil ?_ | (refine IsBin ?_; refine B2 rfl rfl rfl rfl ?_) | (refine IsLoad ?_; first | refine L1 rfl rfl rfl rfl ?_ | refine L2 rfl rfl rfl rfl rfl ?_) | (refine IsStore ?_; refine S1 rfl rfl rfl rfl rfl rfl rfl (fun _ => ?_)) | (refine IsAlloc ?_; refine N2 rfl rfl rfl rfl (fun _ => ?_)) | refine V1 rfl rfl rfl ?_) | (refine IsAt ?_; (with_reducible first | refine T1 ?_ | refine T2 ?_)) | (refine IsJ ?_; first | refine J_seq ?_ | refine J_region ?_ | refine J_skip ?_ | refine J_ret ?_ | (refine IsCond ?_; first | refine K1 rfl ?_ | refine K2 rfl ?_)))
  refine JO_l (OL_call [7, 7] rfl rfl rfl (RegStays_spec (w := w) (bf := bf) (bst := bst) (nR := nR) k hr hF.rl hF.nb hcl) rfl) rfl rfl ?_
  rintro _ _ ⟨_, ⟨a, cap, hn, rfl, rfl⟩, rfl⟩
  rw [hlen] at hn
  rw [hlen]
  by_cases h0 : B.length = 0
  · repeat' (first | (refine IsO ?_; first | refine JO_nil ?_ | (refine IsBin ?_; refine B2 rfl rfl rfl rfl ?_) | (refine IsLoad ?_; first | refine L1 rfl rfl rfl rfl ?_ | refine L2 rfl rfl rfl rfl rfl ?_) | (refine IsStore ?_; refine S1 rfl rfl rfl rfl rfl rfl rfl (fun _ => ?_)) | (refine IsAlloc ?_; refine N2 rfl rfl rfl rfl (fun _ => ?_)) | refine V1 rfl rfl rfl ?_) | (refine IsAt ?_; (with_reducible first | refine T1 ?_ | refine T2 ?_)) | (refine IsJ ?_; first | refine J_seq ?_ | refine J_region ?_ | refine J_skip ?_ | refine J_ret ?_ | (refine IsCond ?_; first | refine K1 rfl ?_ | refine K2 rfl ?_)))
    refine At_ret rfl rfl (.tmp rfl (.tmp rfl .nil)) rfl (is := [3, 3, 3, 3, 3, 3, 3, 1, 1, 1]) rfl ⟨?_, rfl⟩
    rw [List.eq_nil_of_length_eq_zero h0]
    rfl
  · obtain ⟨o0, ho0⟩ : ∃ o0, B[0]? = some o0 := ⟨B[0]'(by omega), List.getElem?_eq_getElem _⟩
    obtain ⟨o1, ho1⟩ : ∃ o1, B[B.length - 1]? = some o1 := ⟨B[B.length - 1]'(by omega), List.getElem?_eq_getElem _⟩
    have e0 : exA B = o0.i := by unfold exA; rw [ho0]
    have e1 : exB B = o1.i + 1 + o1.ws.length := by unfold exB; rw [ho1]
    obtain ⟨i1, hi1⟩ := hBo _ _ ho1
    have hol := hc.o_lt hi1
    rw [e0, e1]
    repeat' (first | (refine IsO ?_; first | refine JO_nil ?_ | (refine IsBin ?_; refine B2 rfl rfl rfl rfl ?_) | (refine IsLoad ?_; first | refine L1 rfl rfl rfl rfl ?_ | refine L2 rfl rfl rfl rfl rfl ?_) | (refine IsStore ?_; refine S1 rfl rfl rfl rfl rfl rfl rfl (fun _ => ?_)) | (refine IsAlloc ?_; refine N2 rfl rfl rfl rfl (fun _ => ?_)) | refine V1 rfl rfl rfl ?_) | (refine IsAt ?_; (with_reducible first | refine T1 ?_ | refine T2 ?_)) | (refine IsJ ?_; first | refine J_seq ?_ | refine J_region ?_ | refine J_skip ?_ | refine J_ret ?_ | (refine IsCond ?_; first | refine K1 rfl ?_ | refine K2 rfl ?_)))
    have hRow : Reads (row 3 1 a B.length cap (intsV r.c)) 1 B.length a cap (intsV r.c) := Reads.row (by simp [hlen]) hn
    refine JO_fact _ (fun w hs => hRow.some (by omega) hs (.head _)) ?_
    rintro ⟨b2, o2, rfl⟩
    refine JO_val (OV_idx (off := o2 + (B.length - 1)) rfl rfl rfl rfl (by omega) (by omega) (by omega)) rfl rfl ?_
    refine JO_q (OQ_read (i := B.length - 1) (v := .int .i64 o1.i) hRow (.head _) rfl rfl (by omega) (by simp [intsV, hget _ _ ho1])) rfl rfl ?_
    repeat' (first | (refine IsO ?_; first | refine JO_nil ?_ | (refine IsBin ?_; refine B2 rfl rfl rfl rfl ?_) | (refine IsLoad ?_; first | refine L1 rfl rfl rfl rfl ?_ | refine L2 rfl rfl rfl rfl rfl ?_) | (refine IsStore ?_; refine S1 rfl rfl rfl rfl rfl rfl rfl (fun _ => ?_)) | (refine IsAlloc ?_; refine N2 rfl rfl rfl rfl (fun _ => ?_)) | refine V1 rfl rfl rfl ?_) | (refine IsAt ?_; (with_reducible first | refine T1 ?_ | refine T2 ?_)) | (refine IsJ ?_; first | refine J_seq ?_ | refine J_region ?_ | refine J_skip ?_ | refine J_ret ?_ | (refine IsCond ?_; first | refine K1 rfl ?_ | refine K2 rfl ?_)))
    refine JO_l (OL_call [5, 5, 5] rfl rfl rfl (HeadO_ok (p := p) (bw := bw) (bs := bs) h hc hi1) rfl) rfl rfl ?_
    rintro _ _ ⟨_, ⟨rfl, rfl⟩, rfl⟩
    repeat' (first | (refine IsO ?_; first | refine JO_nil ?_ | (refine IsBin ?_; refine B2 rfl rfl rfl rfl ?_) | (refine IsLoad ?_; first | refine L1 rfl rfl rfl rfl ?_ | refine L2 rfl rfl rfl rfl rfl ?_) | (refine IsStore ?_; refine S1 rfl rfl rfl rfl rfl rfl rfl (fun _ => ?_)) | (refine IsAlloc ?_; refine N2 rfl rfl rfl rfl (fun _ => ?_)) | refine V1 rfl rfl rfl ?_) | (refine IsAt ?_; (with_reducible first | refine T1 ?_ | refine T2 ?_)) | (refine IsJ ?_; first | refine J_seq ?_ | refine J_region ?_ | refine J_skip ?_ | refine J_ret ?_ | (refine IsCond ?_; first | refine K1 rfl ?_ | refine K2 rfl ?_)))
    refine J_draw [0, 0, 1, 0, 0, 0, 1, 0, 0, 0] (List.range 10) (by kernel_rfl) (by kernel_rfl) ?_
    repeat' (refine IsX ?_; first | (refine JX_nil ?_; refine At_np ?_) | (refine JX_op rfl ?_; refine XsO ?_; first | (refine XsBin ?_; refine XB1 rfl rfl rfl rfl rfl ?_) | (refine XsLoad ?_; refine XL1 rfl rfl rfl rfl rfl ?_) | refine XV1 rfl rfl rfl rfl ?_))
    refine JX_val rfl rfl (OV_idx (off := o2 + 0) rfl rfl rfl rfl (by omega) (by omega) (by simp)) rfl rfl ?_
    refine JX_q rfl rfl (OQ_read (i := 0) (v := .int .i64 o0.i) hRow (by simp) rfl rfl (by omega) (by simp [intsV, hget _ _ ho0])) rfl rfl ?_
    repeat' (refine IsX ?_; first | (refine JX_nil ?_; refine At_np ?_) | (refine JX_op rfl ?_; refine XsO ?_; first | (refine XsBin ?_; refine XB1 rfl rfl rfl rfl rfl ?_) | (refine XsLoad ?_; refine XL1 rfl rfl rfl rfl rfl ?_) | refine XV1 rfl rfl rfl rfl ?_))
    repeat' (first | (refine IsO ?_; first | refine JO_nil ?_ | (refine IsBin ?_; refine B2 rfl rfl rfl rfl ?_) | (refine IsLoad ?_; first | refine L1 rfl rfl rfl rfl ?_ | refine L2 rfl rfl rfl rfl rfl ?_) | (refine IsStore ?_; refine S1 rfl rfl rfl rfl rfl rfl rfl (fun _ => ?_)) | (refine IsAlloc ?_; refine N2 rfl rfl rfl rfl (fun _ => ?_)) | refine V1 rfl rfl rfl ?_) | (refine IsAt ?_; (with_reducible first | refine T1 ?_ | refine T2 ?_)) | (refine IsJ ?_; first | refine J_seq ?_ | refine J_region ?_ | refine J_skip ?_ | refine J_ret ?_ | (refine IsCond ?_; first | refine K1 rfl ?_ | refine K2 rfl ?_)))
    exact At_ret rfl rfl (.tmp rfl (.tmp rfl .nil)) rfl (is := [7, 7, 1, 1, 1, 4, 4, 2, 2, 2]) rfl ⟨rfl, rfl⟩
set_option maxHeartbeats 8000000 in
theorem Ahead_spec (h : HT n T ws st) (hc : Ch ws 0 os T) (hF : RF w nR (lvs ms os) rs fs) (k : Nat) (hk : k < nR) :
    Does Try.prog 71 [ptr ps 0, .int .i64 k] (sdB ps pf p pw pz wa nW wc pv mv tv :: fwdL pf p bw bs pm bm bst bf n T w nR ws st ms rs fs)
    (fun v l => ∃ a cap, v = .slice a (ahL w (lvs ms os) k k).length cap ∧ l = rowz 3 1 a (ahL w (lvs ms os) k k).length cap (intsV (ahL w (lvs ms os) k k)) :: sdB ps pf p pw pz wa nW wc pv mv tv :: fwdL pf p bw bs pm bm bst bf n T w nR ws st ms rs fs) := by
  have htn := h.tn
  have hnb := h.nb
  have hnR := hF.nb
  have hb1 := hF.bef k
  have hb2 := hF.bef (k + 1)
  have hnx := befR_next (w := w) (k := k) (L := lvs ms os)
  refine Does.of tiok Try.func71 (by kernel_rfl) rfl Try.ntmps71 rfl ?_
  intro W fr
  repeat' (first | (refine IsO ?_; first | refine JO_nil ?_ | (refine IsG ?_; refine G1 rfl rfl ?_) | (refine IsMove ?_; first | refine M1 rfl rfl rfl ?_ | refine M2 rfl rfl rfl ?_) | (refine IsBin ?_; refine B1 rfl rfl rfl rfl ?_) | refine V1 rfl rfl rfl ?_) | (refine IsAt ?_; first | (with_reducible first | refine T1 ?_ | refine T3 ?_ | refine T5 ?_ | refine T6 ?_) | ((with_reducible show At _ (PBlock _ _ (Exit.exit _)) _ _); refine At_block_hit ?_)) | (refine IsJ ?_; first | refine J_seq ?_ | refine J_region ?_ | refine J_block ?_ | refine J_skip ?_ | refine J_ret ?_ | refine J_exit ?_ | (refine IsCond ?_; first | refine J_cond_f rfl ?_ | refine K1 rfl ?_ | refine K2 rfl ?_ | refine J_cb rfl (fun _ => ?_) (fun _ => ?_))))
  refine J_drawk [sdB ps pf p pw pz wa nW wc pv mv tv, blk pf (fwdV p pm w bst bf nR) 106] (fun H hl => hl.pick (is := [0, 0]) rfl) [0, 0, 0, 5, 0, 0, 5, 0, 2, 0, 0, 0, 5, 0, 0, 5, 0, 2, 0, 0, 0, 5, 0, 0, 5, 0, 2, 0, 0, 0] [0, 1, 2, 3, 4, 5, 6, 7, 9, 10, 11, 12, 13, 14, 15, 16, 18, 19, 20, 21, 22, 23, 24, 25, 8, 17, 26, 27, 28, 29] (by kernel_rfl) (by kernel_rfl) ?_
  repeat' (refine IsX ?_; first | (refine JX_nil ?_; refine At_np ?_) | (refine JX_op rfl ?_; refine XsO ?_; first | (refine XsBin ?_; refine XB1 rfl rfl rfl rfl rfl ?_) | (refine XsLoad ?_; first | refine XL1k rfl rfl rfl rfl rfl ?_ | refine XL2k rfl rfl rfl rfl rfl rfl ?_) | refine XV1 rfl rfl rfl rfl ?_))
  refine JX_lk rfl rfl (OL_call [9] rfl rfl rfl (RegFirst_spec (w := w) (bst := bst) (bf := bf) (nR := nR) k (hF.fb k (by omega)) hF.fl hF.nb) rfl) rfl rfl ?_ ?_
  · rintro _ _ ⟨_, ⟨rfl, rfl⟩, rfl⟩ H hl
    exact hl.pick (is := [1, 1]) rfl
  rintro _ _ ⟨_, ⟨rfl, rfl⟩, rfl⟩ _
  repeat' (refine IsX ?_; first | (refine JX_nil ?_; refine At_np ?_) | (refine JX_op rfl ?_; refine XsO ?_; first | (refine XsBin ?_; refine XB1 rfl rfl rfl rfl rfl ?_) | (refine XsLoad ?_; first | refine XL1k rfl rfl rfl rfl rfl ?_ | refine XL2k rfl rfl rfl rfl rfl rfl ?_) | refine XV1 rfl rfl rfl rfl ?_))
  refine JX_lk rfl rfl (OL_call [0] rfl rfl rfl (RegFirst_spec (w := w) (bst := bst) (bf := bf) (nR := nR) k (hF.fb k (by omega)) hF.fl hF.nb) rfl) rfl rfl ?_ ?_
  · rintro _ _ ⟨_, ⟨rfl, rfl⟩, rfl⟩ H hl
    exact hl.pick (is := [1, 1]) rfl
  rintro _ _ ⟨_, ⟨rfl, rfl⟩, rfl⟩ _
  repeat' (refine IsX ?_; first | (refine JX_nil ?_; refine At_np ?_) | (refine JX_op rfl ?_; refine XsO ?_; first | (refine XsBin ?_; refine XB1 rfl rfl rfl rfl rfl ?_) | (refine XsLoad ?_; first | refine XL1k rfl rfl rfl rfl rfl ?_ | refine XL2k rfl rfl rfl rfl rfl rfl ?_) | refine XV1 rfl rfl rfl rfl ?_))
  refine JX_lk rfl rfl (OL_call [0] rfl rfl rfl (RegLive_spec (w := w) (bst := bst) (bf := bf) (nR := nR) k (hF.fb k (by omega)) (hF.live hk) hF.fl hF.nb (by omega) (by omega)) rfl) rfl rfl ?_ ?_
  · rintro _ _ ⟨_, ⟨rfl, rfl⟩, rfl⟩ H hl
    exact hl.pick (is := [1, 1]) rfl
  rintro _ _ ⟨_, ⟨rfl, rfl⟩, rfl⟩ _
  repeat' (refine IsX ?_; first | (refine JX_nil ?_; refine At_np ?_) | (refine JX_op rfl ?_; refine XsO ?_; first | (refine XsBin ?_; refine XB1 rfl rfl rfl rfl rfl ?_) | (refine XsLoad ?_; first | refine XL1k rfl rfl rfl rfl rfl ?_ | refine XL2k rfl rfl rfl rfl rfl rfl ?_) | refine XV1 rfl rfl rfl rfl ?_))
  repeat' (first | (refine IsO ?_; first | refine JO_nil ?_ | (refine IsG ?_; refine G1 rfl rfl ?_) | (refine IsMove ?_; first | refine M1 rfl rfl rfl ?_ | refine M2 rfl rfl rfl ?_) | (refine IsBin ?_; refine B1 rfl rfl rfl rfl ?_) | refine V1 rfl rfl rfl ?_) | (refine IsAt ?_; first | (with_reducible first | refine T1 ?_ | refine T3 ?_ | refine T5 ?_ | refine T6 ?_) | ((with_reducible show At _ (PBlock _ _ (Exit.exit _)) _ _); refine At_block_hit ?_)) | (refine IsJ ?_; first | refine J_seq ?_ | refine J_region ?_ | refine J_block ?_ | refine J_skip ?_ | refine J_ret ?_ | refine J_exit ?_ | (refine IsCond ?_; first | refine J_cond_f rfl ?_ | refine K1 rfl ?_ | refine K2 rfl ?_ | refine J_cb rfl (fun _ => ?_) (fun _ => ?_))))
  have hto : ((szL (befR w k (lvs ms os)) : Nat) : Int) + ((szL (inR w k (lvs ms os)) : Int) + (szL (befR w k (lvs ms os)) : Int) - (szL (befR w k (lvs ms os)) : Int)) = ((fstI w (lvs ms os) k + lvI w (lvs ms os) k : Nat) : Int) := by
    show _ = ((szL (befR w k (lvs ms os)) + szL (inR w k (lvs ms os)) : Nat) : Int)
    omega
  rw [hto]
  refine J_loop (α := Nat × Option Addr × Nat) (fun x => x.1 ≤ k)
    (fun x => [(0, ptr ps 0), (5, .slice x.2.1 (ahL w (lvs ms os) k x.1).length x.2.2), (6, .int .i64 (fstI w (lvs ms os) k : Nat)), (7, .int .i64 (fstI w (lvs ms os) k + lvI w (lvs ms os) k : Nat)), (39, .int .i64 k), (40, .int .i64 x.1)])
    (fun x => row 3 1 x.2.1 (ahL w (lvs ms os) k x.1).length x.2.2 (intsV (ahL w (lvs ms os) k x.1)) :: sdB ps pf p pw pz wa nW wc pv mv tv :: fwdL pf p bw bs pm bm bst bf n T w nR ws st ms rs fs) (fun x => k - x.1) (0, none, 0) (Nat.zero_le _) (by repeat (first | exact True.intro | refine And.intro rfl ?_))
    (fun H hl => row_nil (hl.pick (is := [1, 1, 1, 1, 1, 1, 1, 1, 1, 0]) rfl)) ?_
  rintro ⟨q, a0, c0⟩ hq
  dsimp only at hq ⊢
  repeat' (first | (refine IsO ?_; first | refine JO_nil ?_ | (refine IsG ?_; refine G1 rfl rfl ?_) | (refine IsMove ?_; first | refine M1 rfl rfl rfl ?_ | refine M2 rfl rfl rfl ?_) | (refine IsBin ?_; refine B1 rfl rfl rfl rfl ?_) | refine V1 rfl rfl rfl ?_) | (refine IsAt ?_; first | (with_reducible first | refine T1 ?_ | refine T3 ?_ | refine T5 ?_ | refine T6 ?_) | ((with_reducible show At _ (PBlock _ _ (Exit.exit _)) _ _); refine At_block_hit ?_)) | (refine IsJ ?_; first | refine J_seq ?_ | refine J_region ?_ | refine J_skip ?_ | refine J_ret ?_ | refine J_exit ?_ | (refine IsCond ?_; first | refine J_cond_f rfl ?_ | refine K1 rfl ?_ | refine K2 rfl ?_ | refine J_cb rfl (fun _ => ?_) (fun _ => ?_))))
  · rename_i hlt
    refine J_block ?_
    have hln := ahL_len (w := w) (L := lvs ms os) (k := k) (n := q)
    have hnx := ahL_next (w := w) (L := lvs ms os) (k := k) (n := q)
    repeat' (first | (refine IsO ?_; first | refine JO_nil ?_ | (refine IsG ?_; refine G1 rfl rfl ?_) | (refine IsMove ?_; first | refine M1 rfl rfl rfl ?_ | refine M2 rfl rfl rfl ?_) | (refine IsBin ?_; refine B1 rfl rfl rfl rfl ?_) | refine V1 rfl rfl rfl ?_) | (refine IsAt ?_; first | (with_reducible first | refine T1 ?_ | refine T3 ?_ | refine T5 ?_ | refine T6 ?_) | ((with_reducible show At _ (PBlock _ _ (Exit.exit _)) _ _); refine At_block_hit ?_)) | (refine IsJ ?_; first | refine J_seq ?_ | refine J_region ?_ | refine J_block ?_ | refine J_skip ?_ | refine J_ret ?_ | refine J_exit ?_ | (refine IsCond ?_; first | refine J_cond_f rfl ?_ | refine K1 rfl ?_ | refine K2 rfl ?_ | refine J_cb rfl (fun _ => ?_) (fun _ => ?_))))
    refine JO_l (OL_call [1, 1, 1, 1, 1, 1, 1, 1, 1, 1] rfl rfl rfl (Extent_spec h hc hF q (by omega)) rfl) rfl rfl ?_
    rintro _ _ ⟨_, ⟨rfl, rfl⟩, rfl⟩
    have hAB : (ahB w (lvs ms os) k q = true) ↔ ((exA (inR w q (lvs ms os)) : Nat) : Int) < ((fstI w (lvs ms os) k + lvI w (lvs ms os) k : Nat) : Int) ∧ ((fstI w (lvs ms os) k : Nat) : Int) < ((exB (inR w q (lvs ms os)) : Nat) : Int) := by
      unfold ahB
      rw [Bool.and_eq_true, decide_eq_true_iff, decide_eq_true_iff]
      omega
    generalize ahB w (lvs ms os) k q = tt at hAB hnx
    generalize fstI w (lvs ms os) k + lvI w (lvs ms os) k = TO at hAB ⊢
    generalize exA (inR w q (lvs ms os)) = EA at hAB ⊢
    generalize exB (inR w q (lvs ms os)) = EB at hAB ⊢
    generalize fstI w (lvs ms os) k = FS at hAB ⊢
    cases tt with
    | true =>
      obtain ⟨c1, c2⟩ := hAB.1 rfl
      repeat' (first | (refine IsO ?_; first | refine JO_nil ?_ | (refine IsG ?_; refine G1 rfl rfl ?_) | (refine IsMove ?_; first | refine M1 rfl rfl rfl ?_ | refine M2 rfl rfl rfl ?_) | (refine IsBin ?_; refine B1 rfl rfl rfl rfl ?_) | refine V1 rfl rfl rfl ?_) | (refine IsAt ?_; first | (with_reducible first | refine T1 ?_ | refine T3 ?_ | refine T5 ?_ | refine T6 ?_) | ((with_reducible show At _ (PBlock _ _ (Exit.exit _)) _ _); refine At_block_hit ?_)) | (refine IsJ ?_; first | refine J_seq ?_ | refine J_region ?_ | refine J_block ?_ | refine J_skip ?_ | refine J_ret ?_ | refine J_exit ?_ | (refine IsCond ?_; first | refine J_cond_f rfl ?_ | refine K1 rfl ?_ | refine K2 rfl ?_ | refine J_cb rfl (fun _ => ?_) (fun _ => ?_))))
      refine JO_l (OL_buildSlice (cs := [.int .i64 q]) rfl rfl rfl rfl rfl rfl rfl rfl) rfl rfl ?_
      rintro _ _ ⟨b, rfl, rfl⟩
      refine JO_l (OL_append (i := 11) rfl rfl rfl rfl rfl rfl ((Reads.blk rfl).src (.head _)) rfl rfl (fun _ h => by cases h) (by omega) (by omega) (by decide)) rfl rfl ?_
      rintro _ _ ⟨a', cap', rfl, rfl⟩
      have hlen : (ahL w (lvs ms os) k (q + 1)).length = (ahL w (lvs ms os) k q).length + 1 := by rw [hnx, if_pos rfl]; simp
      repeat' (first | (refine IsO ?_; first | refine JO_nil ?_ | (refine IsG ?_; refine G1 rfl rfl ?_) | (refine IsMove ?_; first | refine M1 rfl rfl rfl ?_ | refine M2 rfl rfl rfl ?_) | (refine IsBin ?_; refine B1 rfl rfl rfl rfl ?_) | refine V1 rfl rfl rfl ?_) | (refine IsAt ?_; first | (with_reducible first | refine T1 ?_ | refine T3 ?_ | refine T5 ?_ | refine T6 ?_) | ((with_reducible show At _ (PBlock _ _ (Exit.exit _)) _ _); refine At_block_hit ?_)) | (refine IsJ ?_; first | refine J_seq ?_ | refine J_region ?_ | refine J_block ?_ | refine J_skip ?_ | refine J_ret ?_ | refine J_exit ?_ | (refine IsCond ?_; first | refine J_cond_f rfl ?_ | refine K1 rfl ?_ | refine K2 rfl ?_ | refine J_cb rfl (fun _ => ?_) (fun _ => ?_))))
      refine At_round (q + 1, a', cap') (by show k - (q + 1) < k - q; omega) (by show q + 1 ≤ k; omega) (by rw [hlen]; exact (by repeat (first | exact True.intro | refine And.intro rfl ?_))) (fun H hl => ?_)
      rw [hlen, hnx, if_pos rfl]
      have h3 := hl.pick (l := _) (is := [0, 1, 1, 1, 1, 1, 1, 1, 1, 1, 1]) rfl
      rw [show intsV (ahL w (lvs ms os) k q ++ [(q : Int)]) = intsV (ahL w (lvs ms os) k q) ++ [.int .i64 q] by simp [intsV]]
      exact h3
    | false =>
      rw [if_neg (by decide), List.append_nil] at hnx
      by_cases c1 : (EA : Int) < TO
      · have c2 : ¬ (FS : Int) < EB := fun c2 => absurd (hAB.2 ⟨c1, c2⟩) (by decide)
        repeat' (first | (refine IsO ?_; first | refine JO_nil ?_ | (refine IsG ?_; refine G1 rfl rfl ?_) | (refine IsMove ?_; first | refine M1 rfl rfl rfl ?_ | refine M2 rfl rfl rfl ?_) | (refine IsBin ?_; refine B1 rfl rfl rfl rfl ?_) | refine V1 rfl rfl rfl ?_) | (refine IsAt ?_; first | (with_reducible first | refine T1 ?_ | refine T3 ?_ | refine T5 ?_ | refine T6 ?_) | ((with_reducible show At _ (PBlock _ _ (Exit.exit _)) _ _); refine At_block_hit ?_)) | (refine IsJ ?_; first | refine J_seq ?_ | refine J_region ?_ | refine J_block ?_ | refine J_skip ?_ | refine J_ret ?_ | refine J_exit ?_ | (refine IsCond ?_; first | refine J_cond_f rfl ?_ | refine K1 rfl ?_ | refine K2 rfl ?_ | refine J_cb rfl (fun _ => ?_) (fun _ => ?_))))
        exact At_round (q + 1, a0, c0) (by show k - (q + 1) < k - q; omega) (by show q + 1 ≤ k; omega) (by rw [hnx]; exact (by repeat (first | exact True.intro | refine And.intro rfl ?_))) (fun H hl => by rw [hnx]; exact hl.pick (is := [10, 0, 0, 0, 0, 0, 0, 0, 0, 0, 0]) rfl)
      · repeat' (first | (refine IsO ?_; first | refine JO_nil ?_ | (refine IsG ?_; refine G1 rfl rfl ?_) | (refine IsMove ?_; first | refine M1 rfl rfl rfl ?_ | refine M2 rfl rfl rfl ?_) | (refine IsBin ?_; refine B1 rfl rfl rfl rfl ?_) | refine V1 rfl rfl rfl ?_) | (refine IsAt ?_; first | (with_reducible first | refine T1 ?_ | refine T3 ?_ | refine T5 ?_ | refine T6 ?_) | ((with_reducible show At _ (PBlock _ _ (Exit.exit _)) _ _); refine At_block_hit ?_)) | (refine IsJ ?_; first | refine J_seq ?_ | refine J_region ?_ | refine J_block ?_ | refine J_skip ?_ | refine J_ret ?_ | refine J_exit ?_ | (refine IsCond ?_; first | refine J_cond_f rfl ?_ | refine K1 rfl ?_ | refine K2 rfl ?_ | refine J_cb rfl (fun _ => ?_) (fun _ => ?_))))
        exact At_round (q + 1, a0, c0) (by show k - (q + 1) < k - q; omega) (by show q + 1 ≤ k; omega) (by rw [hnx]; exact (by repeat (first | exact True.intro | refine And.intro rfl ?_))) (fun H hl => by rw [hnx]; exact hl.pick (is := [10, 0, 0, 0, 0, 0, 0, 0, 0, 0, 0]) rfl)
  · have hqe : q = k := by omega
    subst hqe
    exact At_ret' rfl rfl (.tmp rfl .nil) rfl (fun H hl => rowz_row hl) ⟨a0, c0, rfl, rfl⟩
end ops
end Go.Proofs.Ytahfnbpbdnmggaa
/-
  Our own: slider: Roots.
-/
set_option linter.unusedVariables false
set_option linter.unusedSimpArgs false
namespace Go.Proofs.Ytahfnbpbdnmggaa
open Go.Sep
/-- What a reference becomes. -/
def fwdW (ms : List Nat) (os : List RO) (z z' : Int) : Prop := (z = 0 ∧ z' = 0) ∨ ∃ (j : Nat) (o : RO), os[j]? = some o ∧ lvB ms o = true ∧ z = (o.i : Int) + 1 ∧ z' = (goI ms os j : Int) + 1
/-- Where all references lead to objects, each is nought or one of them. -/
theorem LeadP.of {n T : Nat} {ws : List Int} {st : List Bool} {os : List RO} (h : HT n T ws st) (hc : Ch ws 0 os T) (hr : RefsOk ws st) : LeadP os := by
  intro j o ho k w hk hw
  have hl := (refs_iff h hc).1 hr o (List.mem_of_getElem? ho) k w hk hw
  have h2 := of_decide_eq_true hl
  rcases h2 with h0 | ⟨h1, hs, _⟩
  · exact .inl h0
  · right
    have hst : (0 = T ∨ st[0]? = some true) := h.zero.imp Eq.symm id
    obtain ⟨o', ho', he⟩ := Ch.find h hc hst (w - 1).toNat (Nat.zero_le _) hs
    obtain ⟨j', hj'⟩ := List.getElem?_of_mem ho'
    exact ⟨j', o', hj', by omega⟩
section ops
variable {ps pf p bw bs pm bm bst bf n T w nR pw bw2 pz bz : Nat} {ws : List Int} {st : List Bool} {os : List RO} {ms : List Nat} {rs : List RG} {fs : List Int} {wds sts : List Int} {wa : Option Addr} {wc : Nat} {xs : List WX} {pv mv tv : Int} {Rl : HP} {la : Option Addr} {lc : Nat} {zs : List Int}
set_option maxHeartbeats 8000000 in
theorem Roots_spec (h : HT n T ws st) (hc : Ch ws 0 os T) (hM : MI n ms) (hF : RF w nR (lvs ms os) rs fs) (hR : nR = numR w T) (hL : Reads Rl 1 zs.length la lc (intsV zs)) (hl : zs.length ≤ 65536) (hz : ∀ z ∈ zs, In64 z) :
    Does Try.prog 18 [ptr ps 0, .slice la zs.length lc] (sldZ ps pf p bw bs pm bm bst bf n T w nR pw bw2 pz bz ws st ms rs fs wds sts wa wc xs pv mv tv ++ [Rl])
    (fun v l => (∃ (out : List Int) (a' : Option Addr) (c' : Nat), out.length = zs.length ∧ (∀ (q : Nat) (z z' : Int), zs[q]? = some z → out[q]? = some z' → fwdW ms os z z') ∧ (∀ z ∈ zs, z = 0 ∨ LiveAt ms os (z - 1)) ∧ v = .tuple #[.slice a' zs.length c', .int .i64 0] ∧
        l = row 3 1 a' zs.length c' (intsV out) :: (sldZ ps pf p bw bs pm bm bst bf n T w nR pw bw2 pz bz ws st ms rs fs wds sts wa wc xs pv mv tv ++ [Rl])) ∨
      ((¬ ∀ z ∈ zs, z = 0 ∨ LiveAt ms os (z - 1)) ∧ v = .tuple #[.slice none 0 0, .int .i64 5] ∧ l = sldZ ps pf p bw bs pm bm bst bf n T w nR pw bw2 pz bz ws st ms rs fs wds sts wa wc xs pv mv tv ++ [Rl])) := by
  refine Does.of tiok Try.func18 (by kernel_rfl) rfl Try.ntmps18 rfl ?_
  intro W fr
  repeat' (first | (refine IsO ?_; first | refine JO_nil ?_ | (refine IsBin ?_; refine B1 rfl rfl rfl rfl ?_) | (refine IsLoad ?_; refine L1 rfl rfl rfl rfl ?_) | refine V1 rfl rfl rfl ?_) | (refine IsAt ?_; first | (with_reducible first | refine T1 ?_ | refine T2 ?_ | refine T3 ?_ | refine T4 ?_ | refine T5 ?_ | refine T6 ?_ | refine T7 ?_) | ((with_reducible show At _ (PBlock _ _ (Exit.exit _)) _ _); refine At_block_hit ?_)) | (refine IsJ ?_; first | refine J_seq ?_ | refine J_region ?_ | refine J_block ?_ | refine J_skip ?_ | refine J_ret ?_ | refine J_exit ?_ | (refine IsCond ?_; first | refine J_cond_t rfl ?_ | refine J_cond_f rfl ?_ | refine J_cb rfl (fun _ => ?_) (fun _ => ?_))))
  refine J_loop (α := Nat × List Int × Option Addr × Nat) (fun x => x.1 ≤ zs.length ∧ x.2.1.length = x.1 ∧ (∀ (q : Nat) (z z' : Int), zs[q]? = some z → x.2.1[q]? = some z' → fwdW ms os z z') ∧ ∀ (q : Nat) (z : Int), q < x.1 → zs[q]? = some z → z = 0 ∨ LiveAt ms os (z - 1))
    (fun x => [(0, ptr ps 0), (6, .slice x.2.2.1 x.1 x.2.2.2), (11, .slice la zs.length lc), (12, .int .i64 zs.length), (13, .int .i64 x.1)])
    (fun x => row 3 1 x.2.2.1 x.1 x.2.2.2 (intsV x.2.1) :: (sldZ ps pf p bw bs pm bm bst bf n T w nR pw bw2 pz bz ws st ms rs fs wds sts wa wc xs pv mv tv ++ [Rl])) (fun x => zs.length - x.1) (0, [], none, 0)
    ⟨Nat.zero_le _, rfl, fun q z z' _ h2 => (by cases h2), fun q z hq => absurd hq (Nat.not_lt_zero _)⟩ (by repeat (first | exact True.intro | refine And.intro rfl ?_)) (fun H hl => row_nil hl) ?_
  rintro ⟨q, out, a0, c0⟩ ⟨hq, hol, hI, hJ⟩
  dsimp only at hq hol hI hJ ⊢
  repeat' (first | (refine IsO ?_; first | refine JO_nil ?_ | (refine IsBin ?_; refine B1 rfl rfl rfl rfl ?_) | (refine IsLoad ?_; refine L1 rfl rfl rfl rfl ?_) | refine V1 rfl rfl rfl ?_) | (refine IsAt ?_; first | (with_reducible first | refine T1 ?_ | refine T2 ?_ | refine T3 ?_ | refine T4 ?_ | refine T5 ?_ | refine T6 ?_ | refine T7 ?_) | ((with_reducible show At _ (PBlock _ _ (Exit.exit _)) _ _); refine At_block_hit ?_)) | (refine IsJ ?_; first | refine J_seq ?_ | refine J_region ?_ | refine J_skip ?_ | refine J_ret ?_ | refine J_exit ?_ | (refine IsCond ?_; first | refine J_cond_t rfl ?_ | refine J_cond_f rfl ?_ | refine J_cb rfl (fun _ => ?_) (fun _ => ?_))))
  · rename_i hlt
    refine J_block ?_
    obtain ⟨y, hy⟩ : ∃ y, zs[q]? = some y := ⟨zs[q]'(by omega), List.getElem?_eq_getElem _⟩
    have hy64 := hz y (List.mem_of_getElem? hy)
    repeat' (first | (refine IsO ?_; first | refine JO_nil ?_ | (refine IsBin ?_; refine B1 rfl rfl rfl rfl ?_) | (refine IsLoad ?_; refine L1 rfl rfl rfl rfl ?_) | refine V1 rfl rfl rfl ?_) | (refine IsAt ?_; first | (with_reducible first | refine T1 ?_ | refine T2 ?_ | refine T3 ?_ | refine T4 ?_ | refine T5 ?_ | refine T6 ?_ | refine T7 ?_) | ((with_reducible show At _ (PBlock _ _ (Exit.exit _)) _ _); refine At_block_hit ?_)) | (refine IsJ ?_; first | refine J_seq ?_ | refine J_region ?_ | refine J_block ?_ | refine J_skip ?_ | refine J_ret ?_ | refine J_exit ?_ | (refine IsCond ?_; first | refine J_cond_t rfl ?_ | refine J_cond_f rfl ?_ | refine J_cb rfl (fun _ => ?_) (fun _ => ?_))))
    refine JO_fact _ (fun w hs2 => hL.some (by omega) hs2 (by simp)) ?_
    rintro ⟨b2, o2, rfl⟩
    refine JO_val (OV_idx (off := o2 + q) rfl rfl rfl rfl (by omega) (by omega) (by simp)) rfl rfl ?_
    refine JO_q (OQ_read (i := q) (v := .int .i64 y) hL (by simp) rfl rfl (by omega) (by simp [intsV, hy])) rfl rfl ?_
    repeat' (first | (refine IsO ?_; first | refine JO_nil ?_ | (refine IsBin ?_; refine B1 rfl rfl rfl rfl ?_) | (refine IsLoad ?_; refine L1 rfl rfl rfl rfl ?_) | refine V1 rfl rfl rfl ?_) | (refine IsAt ?_; first | (with_reducible first | refine T1 ?_ | refine T2 ?_ | refine T3 ?_ | refine T4 ?_ | refine T5 ?_ | refine T6 ?_ | refine T7 ?_) | ((with_reducible show At _ (PBlock _ _ (Exit.exit _)) _ _); refine At_block_hit ?_)) | (refine IsJ ?_; first | refine J_seq ?_ | refine J_region ?_ | refine J_block ?_ | refine J_skip ?_ | refine J_ret ?_ | refine J_exit ?_ | (refine IsCond ?_; first | refine J_cond_t rfl ?_ | refine J_cond_f rfl ?_ | refine J_cb rfl (fun _ => ?_) (fun _ => ?_))))
    have hWd : ∃ (w' e : Int), ((e = 0 ∧ fwdW ms os y w' ∧ (y = 0 ∨ LiveAt ms os (y - 1))) ∨ (e = 5 ∧ ¬ (y = 0 ∨ LiveAt ms os (y - 1)))) ∧ Does Try.prog 47 [ptr pf 0, .int .i64 y] (fwdL pf p bw bs pm bm bst bf n T w nR ws st ms rs fs)
        (fun v l => v = .tuple #[.int .i64 w', .int .i64 e] ∧ l = fwdL pf p bw bs pm bm bst bf n T w nR ws st ms rs fs) := by
      by_cases hlv : LiveAt ms os (y - 1)
      · have hlv' := hlv
        obtain ⟨j2, o2, hj2, hl2, he⟩ := hlv'
        have hyo : y = (o2.i : Int) + 1 := by omega
        have hW := Word_yes (pf := pf) (p := p) (bw := bw) (bs := bs) (pm := pm) (bm := bm) (bst := bst) (bf := bf) h hc hM hF hR hj2 hl2
        rw [← hyo] at hW
        exact ⟨_, 0, .inl ⟨rfl, .inr ⟨j2, o2, hj2, hl2, hyo, rfl⟩, .inr hlv⟩, hW⟩
      · by_cases h0 : y = 0
        · rw [h0]
          exact ⟨0, 0, .inl ⟨rfl, .inl ⟨rfl, rfl⟩, .inl rfl⟩, Word_zero⟩
        · exact ⟨0, 5, .inr ⟨rfl, by rintro (e | e); exact h0 e; exact hlv e⟩, Word_no h0 hy64 h hc hM hlv⟩
    obtain ⟨w', e, he, hWd⟩ := hWd
    refine JO_l (OL_call [9, 6, 6, 6, 6, 6, 6, 6, 6] rfl rfl rfl hWd rfl) rfl rfl ?_
    rintro _ _ ⟨_, ⟨rfl, rfl⟩, rfl⟩
    rcases he with ⟨rfl, hf, hg⟩ | ⟨rfl, hbad⟩
    · repeat' (first | (refine IsO ?_; first | refine JO_nil ?_ | (refine IsBin ?_; refine B1 rfl rfl rfl rfl ?_) | (refine IsLoad ?_; refine L1 rfl rfl rfl rfl ?_) | refine V1 rfl rfl rfl ?_) | (refine IsAt ?_; first | (with_reducible first | refine T1 ?_ | refine T2 ?_ | refine T3 ?_ | refine T4 ?_ | refine T5 ?_ | refine T6 ?_ | refine T7 ?_) | ((with_reducible show At _ (PBlock _ _ (Exit.exit _)) _ _); refine At_block_hit ?_)) | (refine IsJ ?_; first | refine J_seq ?_ | refine J_region ?_ | refine J_block ?_ | refine J_skip ?_ | refine J_ret ?_ | refine J_exit ?_ | (refine IsCond ?_; first | refine J_cond_t rfl ?_ | refine J_cond_f rfl ?_ | refine J_cb rfl (fun _ => ?_) (fun _ => ?_))))
      refine JO_l (OL_buildSlice (cs := [.int .i64 w']) rfl rfl rfl rfl rfl rfl rfl rfl) rfl rfl ?_
      rintro _ _ ⟨b, rfl, rfl⟩
      refine JO_l (OL_append (i := 10) rfl rfl rfl rfl rfl rfl ((Reads.blk rfl).src (.head _)) rfl rfl (fun _ h => by cases h) (by omega) (by omega) (by decide)) rfl rfl ?_
      rintro _ _ ⟨a', cap', rfl, rfl⟩
      repeat' (first | (refine IsO ?_; first | refine JO_nil ?_ | (refine IsBin ?_; refine B1 rfl rfl rfl rfl ?_) | (refine IsLoad ?_; refine L1 rfl rfl rfl rfl ?_) | refine V1 rfl rfl rfl ?_) | (refine IsAt ?_; first | (with_reducible first | refine T1 ?_ | refine T2 ?_ | refine T3 ?_ | refine T4 ?_ | refine T5 ?_ | refine T6 ?_ | refine T7 ?_) | ((with_reducible show At _ (PBlock _ _ (Exit.exit _)) _ _); refine At_block_hit ?_)) | (refine IsJ ?_; first | refine J_seq ?_ | refine J_region ?_ | refine J_block ?_ | refine J_skip ?_ | refine J_ret ?_ | refine J_exit ?_ | (refine IsCond ?_; first | refine J_cond_t rfl ?_ | refine J_cond_f rfl ?_ | refine J_cb rfl (fun _ => ?_) (fun _ => ?_))))
      refine At_round (q + 1, out ++ [w'], a', cap') (by show zs.length - (q + 1) < zs.length - q; omega) ⟨by show q + 1 ≤ zs.length; omega, by simp [hol], fun k z z' h1 h2 => ?_, fun k z hk h1 => ?_⟩ (by repeat (first | exact True.intro | refine And.intro rfl ?_)) (fun H hl => ?_)
      · dsimp only at h2
        by_cases e : k = q
        · subst e
          rw [hy] at h1; injection h1 with h1; subst h1
          rw [List.getElem?_append_right (by omega), hol, Nat.sub_self] at h2
          injection h2 with h2; subst h2
          exact hf
        · have hkl : k < out.length := by
            have := (List.getElem?_eq_some_iff.1 h2).1
            rw [List.length_append, List.length_singleton] at this
            omega
          rw [List.getElem?_append_left hkl] at h2
          exact hI k z z' h1 h2
      · by_cases e : k = q
        · subst e
          rw [hy] at h1; injection h1 with h1; subst h1; exact hg
        · exact hJ k z (by dsimp only at hk; omega) h1
      · have h3 := hl.pick (l := _) (is := [0, 10, 10, 10, 10, 10, 2, 2, 2, 1, 1, 1, 1, 1, 1, 1]) rfl
        rw [show intsV (out ++ [w']) = intsV out ++ [.int .i64 w'] by simp [intsV]]
        exact h3
    · repeat' (first | (refine IsO ?_; first | refine JO_nil ?_ | (refine IsBin ?_; refine B1 rfl rfl rfl rfl ?_) | (refine IsLoad ?_; refine L1 rfl rfl rfl rfl ?_) | refine V1 rfl rfl rfl ?_) | (refine IsAt ?_; first | (with_reducible first | refine T1 ?_ | refine T2 ?_ | refine T3 ?_ | refine T4 ?_ | refine T5 ?_ | refine T6 ?_ | refine T7 ?_) | ((with_reducible show At _ (PBlock _ _ (Exit.exit _)) _ _); refine At_block_hit ?_)) | (refine IsJ ?_; first | refine J_seq ?_ | refine J_region ?_ | refine J_block ?_ | refine J_skip ?_ | refine J_ret ?_ | refine J_exit ?_ | (refine IsCond ?_; first | refine J_cond_t rfl ?_ | refine J_cond_f rfl ?_ | refine J_cb rfl (fun _ => ?_) (fun _ => ?_))))
      exact At_ret rfl rfl (.tmp rfl (.tmp rfl .nil)) rfl (is := [10, 10, 10, 10, 10, 1, 1, 1, 0, 0, 0, 0, 0, 0, 1]) rfl (.inr ⟨fun e => hbad (e y (List.mem_of_getElem? hy)), rfl, rfl⟩)
  · have hqe : q = zs.length := by omega
    subst hqe
    repeat' (first | (refine IsO ?_; first | refine JO_nil ?_ | (refine IsBin ?_; refine B1 rfl rfl rfl rfl ?_) | (refine IsLoad ?_; refine L1 rfl rfl rfl rfl ?_) | refine V1 rfl rfl rfl ?_) | (refine IsAt ?_; first | (with_reducible first | refine T1 ?_ | refine T2 ?_ | refine T3 ?_ | refine T4 ?_ | refine T5 ?_ | refine T6 ?_ | refine T7 ?_) | ((with_reducible show At _ (PBlock _ _ (Exit.exit _)) _ _); refine At_block_hit ?_)) | (refine IsJ ?_; first | refine J_seq ?_ | refine J_region ?_ | refine J_block ?_ | refine J_skip ?_ | refine J_ret ?_ | refine J_exit ?_ | (refine IsCond ?_; first | refine J_cond_t rfl ?_ | refine J_cond_f rfl ?_ | refine J_cb rfl (fun _ => ?_) (fun _ => ?_))))
    exact At_ret rfl rfl (.tmp rfl (.tmp rfl .nil)) rfl (is := [0, 0, 0, 0, 0, 0, 0, 0, 0, 0, 0, 0, 0, 0, 0, 0]) rfl (.inl ⟨out, a0, c0, hol, hI, fun z hz => (by obtain ⟨k, hk⟩ := List.getElem?_of_mem hz; exact hJ k z (List.getElem?_eq_some_iff.1 hk).1 hk), rfl, rfl⟩)
end ops
end Go.Proofs.Ytahfnbpbdnmggaa
/-
  Our own: a sliding in plain lists: where regions go, what words become.
-/
set_option linter.unusedVariables false
set_option linter.unusedSimpArgs false
namespace Go.Proofs.Ytahfnbpbdnmggaa
open Go.Sep
theorem Ch.pw {ws : List Int} {T : Nat} : ∀ {os : List RO} {i : Nat}, Ch ws i os T → os.Pairwise fun a b => a.i + 1 + a.ws.length ≤ b.i
  | [], _, _ => .nil
  | o :: r, i, h => .cons (fun b hb => by have := Ch.ge h.2.2.2.2 b hb; have := h.1; omega) (Ch.pw h.2.2.2.2)
theorem pw_at {L : List RO} (h : L.Pairwise fun a b => a.i + 1 + a.ws.length ≤ b.i) {q q' : Nat} {o o' : RO} (hq : L[q]? = some o) (hq' : L[q']? = some o') (hlt : q < q') : o.i + 1 + o.ws.length ≤ o'.i := by
  obtain ⟨h1, e1⟩ := List.getElem?_eq_some_iff.1 hq
  obtain ⟨h2, e2⟩ := List.getElem?_eq_some_iff.1 hq'
  have := List.pairwise_iff_getElem.1 h q q' h1 h2 hlt
  rw [e1, e2] at this
  exact this
theorem szL_take {L : List RO} {q : Nat} : szL (L.take q) ≤ szL L := by
  conv => rhs; rw [← List.take_append_drop q L]
  rw [szL_app]
  exact Nat.le_add_right _ _
theorem szL_next {L : List RO} {q : Nat} {o : RO} (h : L[q]? = some o) : szL (L.take (q + 1)) = szL (L.take q) + (1 + o.ws.length) := by
  rw [take_next h, szL_app]
  rfl
theorem szL_next_le {L : List RO} {q : Nat} {o : RO} (h : L[q]? = some o) : szL (L.take q) + (1 + o.ws.length) ≤ szL L := by
  rw [← szL_next h]; exact szL_take
section regs
variable {w T : Nat} {ws : List Int} {os : List RO} {ms : List Nat}
theorem reg_pw (h : Ch ws 0 os T) (k : Nat) : (inR w k (lvs ms os)).Pairwise fun a b => a.i + 1 + a.ws.length ≤ b.i := (h.pw.filter _).filter _
/-- An object of a region: where it goes. -/
theorem reg_obj (h : Ch ws 0 os T) {k q : Nat} {o : RO} (hq : (inR w k (lvs ms os))[q]? = some o) :
    ∃ j : Nat, os[j]? = some o ∧ lvB ms o = true ∧ goI ms os j = fstI w (lvs ms os) k + szL ((inR w k (lvs ms os)).take q) := by
  obtain ⟨j, hj, hl, rfl⟩ := inR_os hq
  refine ⟨j, hj, hl, ?_⟩
  obtain ⟨B, hB, hb, hgo⟩ := inR_split (w := w) h hj hl
  have hA : (inR w (o.i / w) (lvs ms os))[(inR w (o.i / w) (lvs ms (os.take j))).length]? = some o := by
    rw [hB, List.getElem?_append_right (Nat.le_refl _), Nat.sub_self]; rfl
  have hpw := reg_pw (w := w) (ms := ms) h (o.i / w)
  have e : q = (inR w (o.i / w) (lvs ms (os.take j))).length := by
    rcases Nat.lt_trichotomy q (inR w (o.i / w) (lvs ms (os.take j))).length with e | e | e
    · have := pw_at hpw hq hA e; omega
    · exact e
    · have := pw_at hpw hA hq e; omega
  rw [hgo, hB, e, List.take_append_of_le_length (Nat.le_refl _), List.take_length]
theorem fst_next (L : List RO) (k : Nat) : fstI w L (k + 1) = fstI w L k + lvI w L k := by
  show szL (befR w (k + 1) L) = szL (befR w k L) + szL (inR w k L)
  rw [befR_next, Nat.add_comm]
theorem fst_le (L : List RO) {k k' : Nat} (h : k ≤ k') : fstI w L k ≤ fstI w L k' := by
  induction k' with
  | zero => obtain rfl : k = 0 := by omega
            exact Nat.le_refl _
  | succ m ih =>
    rcases Nat.lt_or_ge m k with e | e
    · obtain rfl : k = m + 1 := by omega
      exact Nat.le_refl _
    · have := ih e
      rw [fst_next]
      omega
theorem fst_apart (L : List RO) {k k' : Nat} (h : k < k') : fstI w L k + lvI w L k ≤ fstI w L k' := by
  rw [← fst_next]; exact fst_le L h
theorem fst_find (L : List RO) {x : Nat} : ∀ {k : Nat}, x < fstI w L k → ∃ r, r < k ∧ fstI w L r ≤ x ∧ x < fstI w L r + lvI w L r
  | 0, h => by
    have : fstI w L 0 = 0 := by show szL (befR w 0 L) = 0; rw [befR_zero]; rfl
    omega
  | k + 1, h => by
    rw [fst_next] at h
    rcases Nat.lt_or_ge x (fstI w L k) with e | e
    · obtain ⟨r, h1, h2⟩ := fst_find L e
      exact ⟨r, by omega, h2⟩
    · exact ⟨k, Nat.lt_succ_self k, e, h⟩
/-- A region's objects lie between its bounds. -/
theorem ext_in (h : Ch ws 0 os T) {k q : Nat} {o : RO} (hq : (inR w k (lvs ms os))[q]? = some o) : exA (inR w k (lvs ms os)) ≤ o.i ∧ o.i + 1 + o.ws.length ≤ exB (inR w k (lvs ms os)) := by
  have hpw := reg_pw (w := w) (ms := ms) h k
  generalize inR w k (lvs ms os) = B at hq hpw
  have hql := (List.getElem?_eq_some_iff.1 hq).1
  constructor
  · unfold exA
    rw [List.getElem?_eq_getElem (by omega)]
    show (B[0]).i ≤ o.i
    rcases Nat.eq_zero_or_pos q with e | e
    · subst e
      rw [List.getElem?_eq_getElem (by omega)] at hq
      injection hq with hq
      rw [hq]; exact Nat.le_refl _
    · have := pw_at hpw (List.getElem?_eq_getElem (i := 0) (by omega)) hq e
      omega
  · unfold exB
    rw [List.getElem?_eq_getElem (by omega)]
    show _ ≤ (B[B.length - 1]).i + 1 + (B[B.length - 1]).ws.length
    rcases Nat.lt_or_ge q (B.length - 1) with e | e
    · have := pw_at hpw hq (List.getElem?_eq_getElem (i := B.length - 1) (by omega)) e
      omega
    · obtain rfl : q = B.length - 1 := by omega
      rw [List.getElem?_eq_getElem (by omega)] at hq
      injection hq with hq
      rw [hq]; exact Nat.le_refl _
end regs
/-- What a reference becomes. -/
def fwI (ms : List Nat) (os : List RO) (z : Int) : Int := match os.findIdx? (fun o => decide ((o.i : Int) + 1 = z)) with
  | some j => (goI ms os j : Int) + 1
  | none => 0
theorem fwI_zero {ms : List Nat} {os : List RO} : fwI ms os 0 = 0 := by
  unfold fwI
  rw [show os.findIdx? (fun o => decide ((o.i : Int) + 1 = 0)) = none from by
    rw [List.findIdx?_eq_none_iff]
    intro o _
    exact decide_eq_false (by omega)]
theorem fwI_obj {ws : List Int} {T : Nat} {ms : List Nat} {os : List RO} (h : Ch ws 0 os T) {j : Nat} {o : RO} (hj : os[j]? = some o) : fwI ms os ((o.i : Int) + 1) = (goI ms os j : Int) + 1 := by
  unfold fwI
  have hjl := (List.getElem?_eq_some_iff.1 hj)
  obtain ⟨hjl, hje⟩ := hjl
  rw [show os.findIdx? (fun x => decide ((x.i : Int) + 1 = (o.i : Int) + 1)) = some j from by
    rw [List.findIdx?_eq_some_iff_getElem]
    refine ⟨hjl, decide_eq_true (by rw [hje]), fun m hm => ?_⟩
    have hml : m < os.length := by omega
    have := pw_at h.pw (List.getElem?_eq_getElem hml) hj hm
    intro hd
    have := of_decide_eq_true hd
    omega]
theorem fwI_of {ws : List Int} {T : Nat} {ms : List Nat} {os : List RO} (h : Ch ws 0 os T) {z z' : Int} (hf : fwdW ms os z z') : z' = fwI ms os z := by
  rcases hf with ⟨rfl, rfl⟩ | ⟨j, o, hj, hl, rfl, rfl⟩
  · exact fwI_zero.symm
  · exact (fwI_obj h hj).symm
/-- An object's words, slid. -/
def fwL (ms : List Nat) (os : List RO) (o : RO) : List Int := (List.range o.ws.length).map fun (t : Nat) => if (t : Int) < o.p then fwI ms os (o.ws.getD t 0) else o.ws.getD t 0
theorem fwL_len {ms : List Nat} {os : List RO} {o : RO} : (fwL ms os o).length = o.ws.length := by unfold fwL; simp
theorem fwL_at {ms : List Nat} {os : List RO} {o : RO} {t : Nat} {y : Int} (h : o.ws[t]? = some y) : (fwL ms os o)[t]? = some (if (t : Int) < o.p then fwI ms os y else y) := by
  have hl := (List.getElem?_eq_some_iff.1 h).1
  unfold fwL
  rw [List.getElem?_map, List.getElem?_range hl]
  show some (if (t : Int) < o.p then fwI ms os (o.ws.getD t 0) else o.ws.getD t 0) = _
  rw [List.getD_eq_getElem?_getD, h]
  rfl
def nwO (ms : List Nat) (os : List RO) (o : RO) : List Int := packI o.k o.ws.length o.p :: fwL ms os o
theorem nwO_len {ms : List Nat} {os : List RO} {o : RO} : (nwO ms os o).length = 1 + o.ws.length := by
  unfold nwO
  rw [List.length_cons, fwL_len, Nat.add_comm]
theorem nw_flat {ms : List Nat} {os : List RO} : ∀ {L : List RO}, (L.flatMap (nwO ms os)).length = szL L
  | [] => rfl
  | o :: r => by
    rw [List.flatMap_cons, List.length_append, nwO_len, nw_flat (L := r)]
    rfl
theorem nw_at {ms : List Nat} {os : List RO} {A B : List RO} {o : RO} {t : Nat} (ht : t < 1 + o.ws.length) : ((A ++ o :: B).flatMap (nwO ms os))[szL A + t]? = (nwO ms os o)[t]? := by
  rw [List.flatMap_append, List.flatMap_cons, List.getElem?_append_right (by rw [nw_flat]; omega), nw_flat, Nat.add_sub_cancel_left, List.getElem?_append_left (by rw [nwO_len]; exact ht)]
/-- The words of what comes of a sliding. -/
def NWI (T : Nat) (ws : List Int) (ms : List Nat) (os : List RO) : List Int := (lvs ms os).flatMap (nwO ms os) ++ (List.replicate (T - szL (lvs ms os)) 0 ++ ws.drop T)
theorem NWI_len {n T : Nat} {ws : List Int} {ms : List Nat} {os : List RO} (hc : Ch ws 0 os T) (hl : ws.length = n) (ht : T ≤ n) : (NWI T ws ms os).length = n := by
  unfold NWI
  have h1 := hc.sz
  have h2 : szL (lvs ms os) ≤ szL os := szL_filter
  rw [List.length_append, nw_flat, List.length_append, List.length_replicate, List.length_drop]
  omega
theorem NWI_obj {T : Nat} {ws : List Int} {ms : List Nat} {os : List RO} {j t : Nat} {o : RO} (hj : os[j]? = some o) (hl : lvB ms o = true) (ht : t < 1 + o.ws.length) : (NWI T ws ms os)[goI ms os j + t]? = (nwO ms os o)[t]? := by
  have eL : lvs ms os = lvs ms (os.take j) ++ o :: lvs ms (os.drop (j + 1)) := by
    conv => lhs; rw [split_at hj]
    unfold lvs
    rw [List.filter_append, List.filter_cons, if_pos hl]
  have hb : goI ms os j + t < szL (lvs ms os) := by
    rw [eL, szL_app]
    show szL (lvs ms (os.take j)) + t < szL (lvs ms (os.take j)) + (1 + o.ws.length + _)
    omega
  unfold NWI
  rw [List.getElem?_append_left (by rw [nw_flat]; exact hb)]
  rw [eL]
  exact nw_at ht
theorem NWI_zero {T : Nat} {ws : List Int} {ms : List Nat} {os : List RO} {x : Nat} (h1 : szL (lvs ms os) ≤ x) (h2 : x < T) : (NWI T ws ms os)[x]? = some 0 := by
  unfold NWI
  rw [List.getElem?_append_right (by rw [nw_flat]; exact h1), nw_flat, List.getElem?_append_left (by rw [List.length_replicate]; omega), List.getElem?_replicate, if_pos (by omega)]
theorem NWI_rest {T : Nat} {ws : List Int} {ms : List Nat} {os : List RO} {x : Nat} (hc : Ch ws 0 os T) (h : T ≤ x) : (NWI T ws ms os)[x]? = ws[x]? := by
  have h1 := hc.sz
  have h2 : szL (lvs ms os) ≤ szL os := szL_filter
  unfold NWI
  rw [List.getElem?_append_right (by rw [nw_flat]; omega), nw_flat, List.getElem?_append_right (by rw [List.length_replicate]; omega), List.length_replicate, List.getElem?_drop]
  congr 1
  omega
end Go.Proofs.Ytahfnbpbdnmggaa
/-
  Our own: a sliding: what stays true at each step, in plain lists.
-/
set_option linter.unusedVariables false
set_option linter.unusedSimpArgs false
namespace Go.Proofs.Ytahfnbpbdnmggaa
open Go.Sep
abbrev fnC : Nat := 44
abbrev fnR : Nat := 69
abbrev fnO : Nat := 85
abbrev fnF : Nat := 94
abbrev fnL : Nat := 99
abbrev fnA : Nat := 70
abbrev fnP : Nat := 87
abbrev fnZ : Nat := 97
abbrev fnX : Nat := 96
def partsI (T S : Nat) : Nat := (T - S + 15) / 16
def partE (T S c : Nat) : Nat := min (S + c * 16 + 16) T
def partL (T S c : Nat) : Nat := partE T S c - (S + c * 16)
def OnR (x : WX) (k : Nat) : Prop := (x.fn = fnR ∨ x.fn = fnO ∨ x.fn = fnF ∨ x.fn = fnL) ∧ x.region = k
def OnP (T S : Nat) (x : WX) (c : Nat) : Prop := x.fn = fnZ ∧ x.end_ = (partE T S c : Nat) ∧ c < partsI T S
def AllD (nR : Nat) (sts : List Int) : Prop := ∀ k, k < nR → sts[3 + k]? = some 1
def AhD (w : Nat) (L : List RO) (sts : List Int) (k : Nat) : Prop := ∀ r, r < k → ahB w L k r = true → sts[3 + r]? = some 1
theorem OnR.inj {x : WX} {k k' : Nat} (h : OnR x k) (h' : OnR x k') : k = k' := by have := h.2; have := h'.2; omega
theorem partE_inj {T S c c' : Nat} (h : c < partsI T S) (h' : c' < partsI T S) (e : partE T S c = partE T S c') : c = c' := by
  unfold partE partsI at *
  omega
theorem OnP.inj {T S : Nat} {x : WX} {c c' : Nat} (h : OnP T S x c) (h' : OnP T S x c') : c = c' := by
  have h1 := h.2.1; have h2 := h'.2.1
  exact partE_inj h.2.2 h'.2.2 (by omega)
/-- What it is of: the words, the objects, the marks. -/
structure Cur (ws : List Int) (os : List RO) (ms : List Nat) (w k q a : Nat) (x : WX) (o : RO) (j : Nat) : Prop where
  hq : (inR w k (lvs ms os))[q]? = some o
  hj : os[j]? = some o
  hl : lvB ms o = true
  go : goI ms os j = fstI w (lvs ms os) k + szL ((inR w k (lvs ms os)).take q)
  fr : x.from_ = o.i
  to : x.to = (goI ms os j : Nat)
  sz : x.size = 1 + (o.ws.length : Int)
  rf : x.refs = o.p
  at_ : x.at_ = a
  lt : a < 1 + o.ws.length
def olI (w k q : Nat) (L : List RO) : List Int := ((inR w k L).drop q).map fun o => (o.i : Int)
inductive WOk (T w nR : Nat) (ws : List Int) (os : List RO) (ms : List Nat) (sts : List Int) (C D : Nat) (Q A Z : Nat → Nat) (x : WX) : Prop
  | claim (h : x.fn = fnC)
  | ready (h : x.fn = fnR) (k : Nat) (hr : x.region = k) (hk : k < nR) (hC : k < C) (h0 : sts[3 + k]? = some 0) (hQ : Q k = 0) (hA : A k = 0) (ho : x.ol = olI w k 0 (lvs ms os)) (hl : x.wl.length ≤ k)
      (hb : ∀ r ∈ x.wl, ∃ r' : Nat, r = r' ∧ r' < k) (hd : ∀ r, r < k → ahB w (lvs ms os) k r = true → (r : Int) ∉ x.wl → sts[3 + r]? = some 1)
  | object (h : x.fn = fnO) (k : Nat) (hr : x.region = k) (hk : k < nR) (hC : k < C) (h0 : sts[3 + k]? = some 0) (hQ : Q k ≤ (inR w k (lvs ms os)).length) (hA : A k = 0) (ho : x.ol = olI w k (Q k) (lvs ms os)) (hd : AhD w (lvs ms os) sts k)
  | fetch (h : x.fn = fnF) (k : Nat) (hr : x.region = k) (hk : k < nR) (hC : k < C) (h0 : sts[3 + k]? = some 0) (ho : x.ol = olI w k (Q k + 1) (lvs ms os)) (hd : AhD w (lvs ms os) sts k) (o : RO) (j : Nat) (hc : Cur ws os ms w k (Q k) (A k) x o j)
  | lay (h : x.fn = fnL) (k : Nat) (hr : x.region = k) (hk : k < nR) (hC : k < C) (h0 : sts[3 + k]? = some 0) (ho : x.ol = olI w k (Q k + 1) (lvs ms os)) (hd : AhD w (lvs ms os) sts k) (o : RO) (j : Nat) (hc : Cur ws os ms w k (Q k) (A k) x o j) (hw : ws[o.i + A k]? = some x.word)
  | all (h : x.fn = fnA) (hC : nR < C) (a : Nat) (ha : x.at_ = a) (hn : a ≤ nR) (hd : ∀ k, k < a → sts[3 + k]? = some 1)
  | part (h : x.fn = fnP) (hd : AllD nR sts)
  | clear (h : x.fn = fnZ) (hd : AllD nR sts) (c : Nat) (hc : c < partsI T (szL (lvs ms os))) (hD : c < D) (he : x.end_ = (partE T (szL (lvs ms os)) c : Nat)) (ha : x.at_ = (szL (lvs ms os) + c * 16 + Z c : Nat))
  | rest (h : x.fn = fnX) (hd : AllD nR sts) (hD : partsI T (szL (lvs ms os)) < D)
section keep
variable {T w nR : Nat} {ws : List Int} {os : List RO} {ms : List Nat} {sts sts' : List Int} {C D C' D' : Nat} {Q A Z Q' A' Z' : Nat → Nat} {x : WX}
theorem AhD.mono {L : List RO} {k : Nat} (h : AhD w L sts k) (h1 : ∀ r, sts[3 + r]? = some 1 → sts'[3 + r]? = some 1) : AhD w L sts' k := fun r hr hb => h1 r (h r hr hb)
theorem AllD.mono (h : AllD nR sts) (h1 : ∀ r, sts[3 + r]? = some 1 → sts'[3 + r]? = some 1) : AllD nR sts' := fun k hk => h1 k (h k hk)
theorem Cur.of {k q a q' a' : Nat} {o : RO} {j : Nat} (h : Cur ws os ms w k q a x o j) (hq : q' = q) (ha : a' = a) : Cur ws os ms w k q' a' x o j := by subst hq ha; exact h
theorem WOk.keep (h : WOk T w nR ws os ms sts C D Q A Z x) (hC : C ≤ C') (hD : D ≤ D') (h1 : ∀ r, sts[3 + r]? = some 1 → sts'[3 + r]? = some 1)
    (hR : ∀ k, OnR x k → sts'[3 + k]? = sts[3 + k]? ∧ Q' k = Q k ∧ A' k = A k) (hP : ∀ c, OnP T (szL (lvs ms os)) x c → Z' c = Z c) : WOk T w nR ws os ms sts' C' D' Q' A' Z' x := by
  cases h with
  | claim h => exact .claim h
  | ready h k hr hk hC1 h0 hQ hA ho hl hb hd =>
    obtain ⟨e1, e2, e3⟩ := hR k ⟨.inl h, hr⟩
    exact .ready h k hr hk (by omega) (e1.trans h0) (e2.trans hQ) (e3.trans hA) ho hl hb fun r hr hb hn => h1 r (hd r hr hb hn)
  | object h k hr hk hC1 h0 hQ hA ho hd =>
    obtain ⟨e1, e2, e3⟩ := hR k ⟨.inr (.inl h), hr⟩
    exact .object h k hr hk (by omega) (e1.trans h0) (by rw [e2]; exact hQ) (e3.trans hA) (by rw [e2]; exact ho) (hd.mono h1)
  | fetch h k hr hk hC1 h0 ho hd o j hc =>
    obtain ⟨e1, e2, e3⟩ := hR k ⟨.inr (.inr (.inl h)), hr⟩
    exact .fetch h k hr hk (by omega) (e1.trans h0) (by rw [e2]; exact ho) (hd.mono h1) o j (hc.of e2 e3)
  | lay h k hr hk hC1 h0 ho hd o j hc hw =>
    obtain ⟨e1, e2, e3⟩ := hR k ⟨.inr (.inr (.inr h)), hr⟩
    exact .lay h k hr hk (by omega) (e1.trans h0) (by rw [e2]; exact ho) (hd.mono h1) o j (hc.of e2 e3) (by rw [e3]; exact hw)
  | all h hC1 a ha hn hd => exact .all h (by omega) a ha hn fun k hk => h1 k (hd k hk)
  | part h hd => exact .part h (hd.mono h1)
  | clear h hd c hc hD1 he ha => exact .clear h (hd.mono h1) c hc (by omega) he (by rw [hP c ⟨h, he, hc⟩]; exact ha)
  | rest h hd hD1 => exact .rest h (hd.mono h1) (by omega)
theorem WOk.onR (h : WOk T w nR ws os ms sts C D Q A Z x) {k : Nat} (hk : OnR x k) : k < nR ∧ k < C ∧ sts[3 + k]? = some 0 := by
  obtain ⟨hf, hr⟩ := hk
  cases h with
  | claim h => rw [h] at hf; exact absurd hf (by decide)
  | ready h k' hr' hk hC1 h0 hQ hA ho hl hb hd => obtain rfl : k' = k := by omega
                                                  exact ⟨hk, hC1, h0⟩
  | object h k' hr' hk hC1 h0 hQ hA ho hd => obtain rfl : k' = k := by omega
                                             exact ⟨hk, hC1, h0⟩
  | fetch h k' hr' hk hC1 h0 ho hd o j hc => obtain rfl : k' = k := by omega
                                             exact ⟨hk, hC1, h0⟩
  | lay h k' hr' hk hC1 h0 ho hd o j hc hw => obtain rfl : k' = k := by omega
                                              exact ⟨hk, hC1, h0⟩
  | all h hC1 a ha hn hd => rw [h] at hf; exact absurd hf (by decide)
  | part h hd => rw [h] at hf; exact absurd hf (by decide)
  | clear h hd c hc hD1 he ha => rw [h] at hf; exact absurd hf (by decide)
  | rest h hd hD1 => rw [h] at hf; exact absurd hf (by decide)
theorem WOk.onP (h : WOk T w nR ws os ms sts C D Q A Z x) {c : Nat} (hk : OnP T (szL (lvs ms os)) x c) : c < D ∧ AllD nR sts ∧ x.at_ = (szL (lvs ms os) + c * 16 + Z c : Nat) := by
  obtain ⟨hf, hr, hc⟩ := hk
  cases h with
  | clear h hd c' hc' hD1 he ha =>
    obtain rfl : c' = c := partE_inj hc' hc (by omega)
    exact ⟨hD1, hd, ha⟩
  | claim h => rw [h] at hf; exact absurd hf (by decide)
  | ready h => rw [h] at hf; exact absurd hf (by decide)
  | object h => rw [h] at hf; exact absurd hf (by decide)
  | fetch h => rw [h] at hf; exact absurd hf (by decide)
  | lay h => rw [h] at hf; exact absurd hf (by decide)
  | all h => rw [h] at hf; exact absurd hf (by decide)
  | part h => rw [h] at hf; exact absurd hf (by decide)
  | rest h => rw [h] at hf; exact absurd hf (by decide)
end keep
def prI (w : Nat) (L : List RO) (Q A : Nat → Nat) (k : Nat) : Nat := szL ((inR w k L).take (Q k)) + A k
/-- What is written. -/
def WrI (T w nR : Nat) (L : List RO) (Q A Z : Nat → Nat) (x : Nat) : Prop :=
  (∃ k, k < nR ∧ fstI w L k ≤ x ∧ x < fstI w L k + prI w L Q A k) ∨ ∃ c, c < partsI T (szL L) ∧ szL L + c * 16 ≤ x ∧ x < szL L + c * 16 + Z c
def isZ (x : WX) : Bool := decide (x.fn = fnZ)
/-- What stays true. -/
structure SI (n T w nR : Nat) (ws : List Int) (os : List RO) (ms : List Nat) (xs : List WX) (sts wds : List Int) (mv : Int) (C D : Nat) (Q A Z : Nat → Nat) : Prop where
  who : ∀ (j : Nat) (x : WX), xs[j]? = some x → x.who = j
  sl : sts.length = 3 + nR
  s0 : sts[0]? = some (C : Int)
  s1 : sts[1]? = some (D : Int)
  s2 : ∃ E : Nat, sts[2]? = some (E : Int) ∧ E + xs.countP isZ = min D (partsI T (szL (lvs ms os)))
  d01 : ∀ (k : Nat), k < nR → sts[3 + k]? = some 0 ∨ sts[3 + k]? = some 1
  wl : wds.length = n
  wv : ∀ x, (WrI T w nR (lvs ms os) Q A Z x → wds[x]? = (NWI T ws ms os)[x]?) ∧ (¬ WrI T w nR (lvs ms os) Q A Z x → wds[x]? = ws[x]?)
  mq : mv = (((List.range nR).map Q).sum : Nat)
  fr : ∀ k, C ≤ k → Q k = 0 ∧ A k = 0 ∧ (k < nR → sts[3 + k]? = some 0)
  ow : ∀ k, k < nR → k < C → sts[3 + k]? = some 0 → ∃ (j : Nat) (x : WX), xs[j]? = some x ∧ OnR x k
  fu : ∀ k, k < nR → sts[3 + k]? = some 1 → Q k = (inR w k (lvs ms os)).length ∧ A k = 0
  uR : ∀ (j j' : Nat) (x x' : WX) (k : Nat), xs[j]? = some x → xs[j']? = some x' → OnR x k → OnR x' k → j = j'
  ah : ∀ k, k < nR → 0 < Q k + A k → AhD w (lvs ms os) sts k
  zf : ∀ c, D ≤ c → Z c = 0
  zo : ∀ c, c < partsI T (szL (lvs ms os)) → c < D → Z c = partL T (szL (lvs ms os)) c ∨ ∃ (j : Nat) (x : WX), xs[j]? = some x ∧ OnP T (szL (lvs ms os)) x c
  zl : ∀ c, Z c ≤ partL T (szL (lvs ms os)) c
  uP : ∀ (j j' : Nat) (x x' : WX) (c : Nat), xs[j]? = some x → xs[j']? = some x' → OnP T (szL (lvs ms os)) x c → OnP T (szL (lvs ms os)) x' c → j = j'
  za : ∀ c, 0 < Z c → AllD nR sts
  wk : ∀ (j : Nat) (x : WX), xs[j]? = some x → WOk T w nR ws os ms sts C D Q A Z x
theorem set_cases {α : Type} {xs : List α} {j i : Nat} {x' y : α} (h : (xs.set j x')[i]? = some y) : (i = j ∧ y = x') ∨ (i ≠ j ∧ xs[i]? = some y) := by
  rw [List.getElem?_set] at h
  by_cases e : j = i
  · rw [if_pos e] at h
    split at h
    · injection h with h; exact .inl ⟨e.symm, h.symm⟩
    · cases h
  · rw [if_neg e] at h
    exact .inr ⟨fun e2 => e e2.symm, h⟩
theorem set_hit {α : Type} {xs : List α} {j : Nat} {x x' : α} (h : xs[j]? = some x) : (xs.set j x')[j]? = some x' := by
  have := (List.getElem?_eq_some_iff.1 h).1
  rw [List.getElem?_set, if_pos rfl, if_pos this]
section step
variable {n T w nR : Nat} {ws : List Int} {os : List RO} {ms : List Nat} {xs : List WX} {sts wds sts' wds' : List Int} {mv mv' : Int} {C D C' D' : Nat} {Q A Z Q' A' Z' : Nat → Nat} {j : Nat} {x : WX}
/-- One worker's step. -/
theorem SI.upd (h : SI n T w nR ws os ms xs sts wds mv C D Q A Z) (hj : xs[j]? = some x) (x' : WX) (hw : x'.who = x.who) (sl : sts'.length = 3 + nR) (s0 : sts'[0]? = some (C' : Int)) (s1 : sts'[1]? = some (D' : Int))
    (s2 : ∃ E : Nat, sts'[2]? = some (E : Int) ∧ E + (xs.set j x').countP isZ = min D' (partsI T (szL (lvs ms os)))) (hC : C ≤ C') (hD : D ≤ D') (d1 : ∀ r, sts[3 + r]? = some 1 → sts'[3 + r]? = some 1)
    (d01 : ∀ k, k < nR → OnR x k → sts'[3 + k]? = some 0 ∨ sts'[3 + k]? = some 1) (hR : ∀ k, OnR x k ∨ (sts'[3 + k]? = sts[3 + k]? ∧ Q' k = Q k ∧ A' k = A k)) (hP : ∀ c, OnP T (szL (lvs ms os)) x c ∨ Z' c = Z c)
    (wl : wds'.length = n) (wv : ∀ x, (WrI T w nR (lvs ms os) Q' A' Z' x → wds'[x]? = (NWI T ws ms os)[x]?) ∧ (¬ WrI T w nR (lvs ms os) Q' A' Z' x → wds'[x]? = ws[x]?)) (mq : mv' = (((List.range nR).map Q').sum : Nat))
    (nR1 : ∀ k, OnR x' k → OnR x k ∨ C ≤ k) (oR : ∀ k, OnR x k → OnR x' k ∨ sts'[3 + k]? ≠ some 0) (oC : ∀ k, k < nR → C ≤ k → k < C' → OnR x' k)
    (fu : ∀ k, OnR x k → sts'[3 + k]? = some 1 → Q' k = (inR w k (lvs ms os)).length ∧ A' k = 0) (ah : ∀ k, OnR x k → 0 < Q' k + A' k → AhD w (lvs ms os) sts' k)
    (nP1 : ∀ c, OnP T (szL (lvs ms os)) x' c → OnP T (szL (lvs ms os)) x c ∨ D ≤ c) (oP : ∀ c, OnP T (szL (lvs ms os)) x c → OnP T (szL (lvs ms os)) x' c ∨ Z' c = partL T (szL (lvs ms os)) c)
    (oD : ∀ c, c < partsI T (szL (lvs ms os)) → D ≤ c → c < D' → OnP T (szL (lvs ms os)) x' c) (zl : ∀ c, OnP T (szL (lvs ms os)) x c → Z' c ≤ partL T (szL (lvs ms os)) c)
    (wk : WOk T w nR ws os ms sts' C' D' Q' A' Z' x') : SI n T w nR ws os ms (xs.set j x') sts' wds' mv' C' D' Q' A' Z' := by
  have hx := h.wk j x hj
  have hoth : ∀ i y, i ≠ j → xs[i]? = some y → WOk T w nR ws os ms sts' C' D' Q' A' Z' y := by
    intro i y hne hi
    refine (h.wk i y hi).keep hC hD d1 (fun k hk => ?_) fun c hc => ?_
    · rcases hR k with e | e
      · exact absurd (h.uR _ _ _ _ _ hi hj hk e) hne
      · exact e
    · rcases hP c with e | e
      · exact absurd (h.uP _ _ _ _ _ hi hj hc e) hne
      · exact e
  refine ⟨fun i y hi => ?_, sl, s0, s1, s2, fun k hk => ?_, wl, wv, mq, fun k hk => ?_, fun k hk hkC h0 => ?_, fun k hk h1 => ?_, fun i i' y y' k hi hi' hk hk' => ?_, fun k hk h0 => ?_, fun c hc => ?_, fun c hcP hcD => ?_, fun c => ?_, fun i i' y y' c hi hi' hk hk' => ?_, fun c hc => ?_, fun i y hi => ?_⟩
  · rcases set_cases hi with ⟨rfl, rfl⟩ | ⟨_, hi⟩
    · exact hw.trans (h.who _ _ hj)
    · exact h.who _ _ hi
  · rcases hR k with e | e
    · exact d01 k hk e
    · rw [e.1]; exact h.d01 k hk
  · obtain ⟨f1, f2, f3⟩ := h.fr k (by omega)
    rcases hR k with e | ⟨e1, e2, e3⟩
    · have := (hx.onR e).2.1; omega
    · exact ⟨e2.trans f1, e3.trans f2, fun hk2 => e1.trans (f3 hk2)⟩
  · by_cases hkC2 : k < C
    · rcases hR k with e | ⟨e1, _, _⟩
      · rcases oR k e with e2 | e2
        · exact ⟨j, x', set_hit hj, e2⟩
        · exact absurd h0 e2
      · obtain ⟨i, y, hi, hy⟩ := h.ow k hk hkC2 (e1 ▸ h0)
        by_cases hij : i = j
        · subst hij
          rw [hj] at hi; injection hi with hi; subst hi
          rcases oR k hy with e2 | e2
          · exact ⟨i, x', set_hit hj, e2⟩
          · exact absurd h0 e2
        · exact ⟨i, y, by rw [List.getElem?_set_ne (Ne.symm hij)]; exact hi, hy⟩
    · exact ⟨j, x', set_hit hj, oC k hk (by omega) hkC⟩
  · rcases hR k with e | ⟨e1, e2, e3⟩
    · exact fu k e h1
    · obtain ⟨f1, f2⟩ := h.fu k hk (e1 ▸ h1)
      exact ⟨e2.trans f1, e3.trans f2⟩
  · have key : ∀ i y, i ≠ j → xs[i]? = some y → OnR y k → OnR x' k → False := by
      intro i y hne hi hy hx'
      rcases nR1 k hx' with e | e
      · exact hne (h.uR _ _ _ _ _ hi hj hy e)
      · have := ((h.wk i y hi).onR hy).2.1; omega
    rcases set_cases hi with ⟨rfl, rfl⟩ | ⟨hne, hi2⟩
    · rcases set_cases hi' with ⟨rfl, rfl⟩ | ⟨hne', hi3⟩
      · rfl
      · exact (key _ _ hne' hi3 hk' hk).elim
    · rcases set_cases hi' with ⟨rfl, rfl⟩ | ⟨hne', hi3⟩
      · exact (key _ _ hne hi2 hk hk').elim
      · exact h.uR _ _ _ _ _ hi2 hi3 hk hk'
  · rcases hR k with e | ⟨e1, e2, e3⟩
    · exact ah k e h0
    · exact (h.ah k hk (by omega)).mono d1
  · rcases hP c with e | e
    · have := (hx.onP e).1; omega
    · exact e.trans (h.zf c (by omega))
  · by_cases hcD2 : c < D
    · rcases hP c with e | e
      · rcases oP c e with e2 | e2
        · exact .inr ⟨j, x', set_hit hj, e2⟩
        · exact .inl e2
      · rcases h.zo c hcP hcD2 with e2 | ⟨i, y, hi, hy⟩
        · exact .inl (e.trans e2)
        · by_cases hij : i = j
          · subst hij
            rw [hj] at hi; injection hi with hi; subst hi
            rcases oP c hy with e2 | e2
            · exact .inr ⟨i, x', set_hit hj, e2⟩
            · exact .inl e2
          · exact .inr ⟨i, y, by rw [List.getElem?_set_ne (Ne.symm hij)]; exact hi, hy⟩
    · exact .inr ⟨j, x', set_hit hj, oD c hcP (by omega) hcD⟩
  · rcases hP c with e | e
    · exact zl c e
    · rw [e]; exact h.zl c
  · have key : ∀ i y, i ≠ j → xs[i]? = some y → OnP T (szL (lvs ms os)) y c → OnP T (szL (lvs ms os)) x' c → False := by
      intro i y hne hi hy hx'
      rcases nP1 c hx' with e | e
      · exact hne (h.uP _ _ _ _ _ hi hj hy e)
      · have := ((h.wk i y hi).onP hy).1; omega
    rcases set_cases hi with ⟨rfl, rfl⟩ | ⟨hne, hi2⟩
    · rcases set_cases hi' with ⟨rfl, rfl⟩ | ⟨hne', hi3⟩
      · rfl
      · exact (key _ _ hne' hi3 hk' hk).elim
    · rcases set_cases hi' with ⟨rfl, rfl⟩ | ⟨hne', hi3⟩
      · exact (key _ _ hne hi2 hk hk').elim
      · exact h.uP _ _ _ _ _ hi2 hi3 hk hk'
  · rcases hP c with e | e
    · exact (hx.onP e).2.1.mono d1
    · exact (h.za c (by omega)).mono d1
  · rcases set_cases hi with ⟨rfl, rfl⟩ | ⟨hne, hi⟩
    · exact wk
    · exact hoth _ _ hne hi
end step
end Go.Proofs.Ytahfnbpbdnmggaa
/-
  Our own: a sliding: each step keeps what stays true.
-/
set_option linter.unusedVariables false
set_option linter.unusedSimpArgs false
namespace Go.Proofs.Ytahfnbpbdnmggaa
open Go.Sep
theorem countP_set {α : Type} {p : α → Bool} {xs : List α} {j : Nat} {x x' : α} (h : xs[j]? = some x) : (xs.set j x').countP p + (if p x then 1 else 0) = xs.countP p + (if p x' then 1 else 0) := by
  have h1 := (permM_at h).countP_eq p
  have h2 := (permM_put (r' := x') (List.getElem?_eq_some_iff.1 h).1).countP_eq p
  rw [List.countP_cons] at h1 h2
  omega
theorem not_R {x : WX} {f : Nat} (h : x.fn = f) (hf : ¬ (f = fnR ∨ f = fnO ∨ f = fnF ∨ f = fnL)) (k : Nat) : ¬ OnR x k := fun h2 => hf (h ▸ h2.1)
theorem not_P {T S : Nat} {x : WX} {f : Nat} (h : x.fn = f) (hf : f ≠ fnZ) (c : Nat) : ¬ OnP T S x c := fun h2 => hf (h.symm.trans h2.1)
theorem isZ_no {x : WX} {f : Nat} (h : x.fn = f) (hf : f ≠ fnZ) : isZ x = false := decide_eq_false (by rw [h]; exact hf)
theorem isZ_yes {x : WX} (h : x.fn = fnZ) : isZ x = true := decide_eq_true h
theorem mem_ahL {w : Nat} {L : List RO} {k n r : Nat} : (r : Int) ∈ ahL w L k n ↔ r < n ∧ ahB w L k r = true := by
  unfold ahL
  rw [List.mem_map]
  constructor
  · rintro ⟨r', h, e⟩
    obtain rfl : r' = r := by omega
    obtain ⟨h1, h2⟩ := List.mem_filter.1 h
    exact ⟨List.mem_range.1 h1, h2⟩
  · exact fun ⟨h1, h2⟩ => ⟨r, List.mem_filter.2 ⟨List.mem_range.2 h1, h2⟩, rfl⟩
def updN (f : Nat → Nat) (k v : Nat) : Nat → Nat := fun i => if i = k then v else f i
theorem updN_hit {f : Nat → Nat} {k v : Nat} : updN f k v k = v := if_pos rfl
theorem updN_ne {f : Nat → Nat} {k v i : Nat} (h : i ≠ k) : updN f k v i = f i := if_neg h
theorem updN_sum {f : Nat → Nat} {k : Nat} : ∀ {n : Nat}, k < n → ((List.range n).map (updN f k (f k + 1))).sum = ((List.range n).map f).sum + 1
  | 0, h => absurd h (Nat.not_lt_zero _)
  | n + 1, h => by
    rw [List.range_succ, List.map_append, List.map_append, List.sum_append, List.sum_append]
    rcases Nat.lt_or_ge k n with e | e
    · rw [updN_sum e]
      simp only [List.map_cons, List.map_nil, List.sum_cons, List.sum_nil]
      rw [updN_ne (by omega)]
      omega
    · obtain rfl : k = n := by omega
      have : (List.range k).map (updN f k (f k + 1)) = (List.range k).map f := List.map_congr_left fun i hi => updN_ne (by have := List.mem_range.1 hi; omega)
      rw [this]
      simp only [List.map_cons, List.map_nil, List.sum_cons, List.sum_nil]
      rw [updN_hit]
      omega
section step
variable {n T w nR : Nat} {ws : List Int} {os : List RO} {ms : List Nat} {xs : List WX} {sts wds : List Int} {mv : Int} {C D : Nat} {Q A Z : Nat → Nat} {j : Nat} {x : WX}
theorem set3 {v : Int} {i k : Nat} (hi : i < 3) : (sts.set i v)[3 + k]? = sts[3 + k]? := List.getElem?_set_ne (by omega)
/-- A step that changes nothing but where the worker is, on what it is on. -/
theorem SI.quiet (h : SI n T w nR ws os ms xs sts wds mv C D Q A Z) (hj : xs[j]? = some x) (x' : WX) (hw : x'.who = x.who) (hz : isZ x' = isZ x) (hR : ∀ k, OnR x' k ↔ OnR x k) (hP : ∀ c, OnP T (szL (lvs ms os)) x' c ↔ OnP T (szL (lvs ms os)) x c)
    (wk : WOk T w nR ws os ms sts C D Q A Z x') : SI n T w nR ws os ms (xs.set j x') sts wds mv C D Q A Z := by
  have hx := h.wk j x hj
  obtain ⟨E, e1, e2⟩ := h.s2
  refine h.upd hj x' hw h.sl h.s0 h.s1 ⟨E, e1, ?_⟩ (Nat.le_refl _) (Nat.le_refl _) (fun _ h => h) (fun k hk _ => h.d01 k hk) (fun k => .inr ⟨rfl, rfl, rfl⟩) (fun c => .inr rfl) h.wl h.wv h.mq (fun k hk => .inl ((hR k).1 hk)) (fun k hk => .inl ((hR k).2 hk))
    (fun k _ h1 h2 => by omega) (fun k hk h1 => h.fu k (hx.onR hk).1 h1) (fun k hk h0 => h.ah k (hx.onR hk).1 h0) (fun c hc => .inl ((hP c).1 hc)) (fun c hc => .inl ((hP c).2 hc)) (fun c _ h1 h2 => by omega) (fun c _ => h.zl c) wk
  have := countP_set (p := isZ) (x' := x') hj
  rw [hz] at this
  omega
theorem SI.claim_next (h : SI n T w nR ws os ms xs sts wds mv C D Q A Z) (hj : xs[j]? = some x) (hf : x.fn = fnC) (hC : C < nR) (wa' oa' : Option Addr) (wc' oc' : Nat) :
    SI n T w nR ws os ms (xs.set j { x with region := C, fn := fnR, wa := wa', wl := ahL w (lvs ms os) C C, wc := wc', oa := oa', ol := stI w C (lvs ms os), oc := oc' }) (sts.set 0 (C + 1)) wds mv (C + 1) D Q A Z := by
  have hsl := h.sl
  obtain ⟨E, e1, e2⟩ := h.s2
  obtain ⟨f1, f2, f3⟩ := h.fr C (Nat.le_refl _)
  generalize hx' : ({ x with region := (C : Int), fn := fnR, wa := wa', wl := ahL w (lvs ms os) C C, wc := wc', oa := oa', ol := stI w C (lvs ms os), oc := oc' } : WX) = x'
  have hfn : x'.fn = fnR := by rw [← hx']
  have hrg : x'.region = C := by rw [← hx']
  refine h.upd hj x' (by rw [← hx']) (by simp [hsl]) (by rw [List.getElem?_set, if_pos rfl, if_pos (by omega)]; rfl) (by rw [List.getElem?_set_ne (by decide)]; exact h.s1) ⟨E, by rw [List.getElem?_set_ne (by decide)]; exact e1, ?_⟩ (by omega) (Nat.le_refl _)
    (fun r h1 => by rw [set3 (by decide)]; exact h1) (fun k hk _ => by rw [set3 (by decide)]; exact h.d01 k hk) (fun k => .inr ⟨set3 (by decide), rfl, rfl⟩) (fun c => .inr rfl) h.wl h.wv h.mq (fun k hk => .inr (by have := hk.2; omega)) (fun k hk => absurd hk (not_R hf (by decide) k))
    (fun k _ h1 h2 => ⟨.inl hfn, by rw [hrg]; omega⟩) (fun k hk => absurd hk (not_R hf (by decide) k)) (fun k hk => absurd hk (not_R hf (by decide) k)) (fun c hc => absurd hc (not_P hfn (by decide) c)) (fun c hc => absurd hc (not_P hf (by decide) c)) (fun c _ h1 h2 => by omega) (fun c _ => h.zl c) ?_
  · have := countP_set (p := isZ) (x' := x') hj
    rw [isZ_no hf (by decide), isZ_no hfn (by decide)] at this
    omega
  · refine .ready hfn C hrg hC (Nat.lt_succ_self C) (by rw [set3 (by decide)]; exact f3 hC) f1 f2 (by rw [← hx']; rfl) (by rw [← hx']; exact ahL_len) (fun r hr => ?_) (fun r hr hb hn => ?_)
    · rw [← hx'] at hr
      have hr : r ∈ ahL w (lvs ms os) C C := hr
      unfold ahL at hr
      obtain ⟨r', h1, rfl⟩ := List.mem_map.1 hr
      exact ⟨r', rfl, List.mem_range.1 (List.mem_filter.1 h1).1⟩
    · rw [← hx'] at hn
      exact absurd (mem_ahL.2 ⟨hr, hb⟩) hn
theorem SI.claim_end (h : SI n T w nR ws os ms xs sts wds mv C D Q A Z) (hj : xs[j]? = some x) (hf : x.fn = fnC) (hC : nR ≤ C) :
    SI n T w nR ws os ms (xs.set j { x with region := C, at_ := 0, fn := fnA }) (sts.set 0 (C + 1)) wds mv (C + 1) D Q A Z := by
  have hsl := h.sl
  obtain ⟨E, e1, e2⟩ := h.s2
  generalize hx' : ({ x with region := (C : Int), at_ := 0, fn := fnA } : WX) = x'
  have hfn : x'.fn = fnA := by rw [← hx']
  refine h.upd hj x' (by rw [← hx']) (by simp [hsl]) (by rw [List.getElem?_set, if_pos rfl, if_pos (by omega)]; rfl) (by rw [List.getElem?_set_ne (by decide)]; exact h.s1) ⟨E, by rw [List.getElem?_set_ne (by decide)]; exact e1, ?_⟩ (by omega) (Nat.le_refl _)
    (fun r h1 => by rw [set3 (by decide)]; exact h1) (fun k hk _ => by rw [set3 (by decide)]; exact h.d01 k hk) (fun k => .inr ⟨set3 (by decide), rfl, rfl⟩) (fun c => .inr rfl) h.wl h.wv h.mq (fun k hk => absurd hk (not_R hfn (by decide) k)) (fun k hk => absurd hk (not_R hf (by decide) k))
    (fun k h0 h1 h2 => by omega) (fun k hk => absurd hk (not_R hf (by decide) k)) (fun k hk => absurd hk (not_R hf (by decide) k)) (fun c hc => absurd hc (not_P hfn (by decide) c)) (fun c hc => absurd hc (not_P hf (by decide) c)) (fun c _ h1 h2 => by omega) (fun c _ => h.zl c) ?_
  · have := countP_set (p := isZ) (x' := x') hj
    rw [isZ_no hf (by decide), isZ_no hfn (by decide)] at this
    omega
  · exact .all hfn (by omega) 0 (by rw [← hx']; rfl) (Nat.zero_le _) fun k hk => absurd hk (Nat.not_lt_zero _)
/-- What a worker that waits knows. -/
theorem SI.ready_wait (h : SI n T w nR ws os ms xs sts wds mv C D Q A Z) (hj : xs[j]? = some x) (hf : x.fn = fnR) {r : Nat} {rest : List Int} (hl : x.wl = (r : Int) :: rest) (hr : sts[3 + r]? = some 1) (wa' : Option Addr) (wc' : Nat) :
    SI n T w nR ws os ms (xs.set j { x with wa := wa', wl := rest, wc := wc' }) sts wds mv C D Q A Z := by
  have hx := h.wk j x hj
  generalize hx' : ({ x with wa := wa', wl := rest, wc := wc' } : WX) = x'
  have hfn : x'.fn = x.fn := by rw [← hx']
  refine h.quiet hj x' (by rw [← hx']) (by rw [isZ_no hf (by decide), isZ_no (hfn.trans hf) (by decide)]) (fun k => ?_) (fun c => ⟨fun hc => absurd hc (not_P (hfn.trans hf) (by decide) c), fun hc => absurd hc (not_P hf (by decide) c)⟩) ?_
  · unfold OnR
    rw [hfn, ← hx']
  · cases hx with
    | ready _ k hrg hk hC h0 hQ hA ho hlen hb hd =>
      refine .ready (hfn.trans hf) k (by rw [← hx']; exact hrg) hk hC h0 hQ hA (by rw [← hx']; exact ho) ?_ (fun y hy => ?_) (fun y hy hyb hn => ?_)
      · rw [← hx']
        rw [hl] at hlen
        exact Nat.le_of_succ_le hlen
      · rw [← hx'] at hy
        exact hb y (by rw [hl]; exact .tail _ hy)
      · rw [← hx'] at hn
        by_cases e : y = r
        · rw [e]; exact hr
        · refine hd y hy hyb ?_
          rw [hl]
          intro hm
          rcases List.mem_cons.1 hm with e2 | e2
          · exact e (by omega)
          · exact hn e2
    | claim h2 => rw [hf] at h2; exact absurd h2 (by decide)
    | object h2 => rw [hf] at h2; exact absurd h2 (by decide)
    | fetch h2 => rw [hf] at h2; exact absurd h2 (by decide)
    | lay h2 => rw [hf] at h2; exact absurd h2 (by decide)
    | all h2 => rw [hf] at h2; exact absurd h2 (by decide)
    | part h2 => rw [hf] at h2; exact absurd h2 (by decide)
    | clear h2 => rw [hf] at h2; exact absurd h2 (by decide)
    | rest h2 => rw [hf] at h2; exact absurd h2 (by decide)
/-- One that waits for nothing more is as good as at its first object. -/
theorem SI.ready_go (h : SI n T w nR ws os ms xs sts wds mv C D Q A Z) (hj : xs[j]? = some x) (hf : x.fn = fnR) (hl : x.wl = []) :
    SI n T w nR ws os ms (xs.set j { x with fn := fnO }) sts wds mv C D Q A Z := by
  have hx := h.wk j x hj
  generalize hx' : ({ x with fn := fnO } : WX) = x'
  have hfn : x'.fn = fnO := by rw [← hx']
  refine h.quiet hj x' (by rw [← hx']) (by rw [isZ_no hf (by decide), isZ_no hfn (by decide)]) (fun k => ?_) (fun c => ⟨fun hc => absurd hc (not_P hfn (by decide) c), fun hc => absurd hc (not_P hf (by decide) c)⟩) ?_
  · unfold OnR
    rw [hfn, hf, ← hx']
    simp
  · cases hx with
    | ready _ k hrg hk hC h0 hQ hA ho hlen hb hd =>
      exact .object hfn k (by rw [← hx']; exact hrg) hk hC h0 (by rw [hQ]; exact Nat.zero_le _) hA (by rw [← hx', hQ]; exact ho) fun r hr hrb => hd r hr hrb (by rw [hl]; exact List.not_mem_nil)
    | claim h2 => rw [hf] at h2; exact absurd h2 (by decide)
    | object h2 => rw [hf] at h2; exact absurd h2 (by decide)
    | fetch h2 => rw [hf] at h2; exact absurd h2 (by decide)
    | lay h2 => rw [hf] at h2; exact absurd h2 (by decide)
    | all h2 => rw [hf] at h2; exact absurd h2 (by decide)
    | part h2 => rw [hf] at h2; exact absurd h2 (by decide)
    | clear h2 => rw [hf] at h2; exact absurd h2 (by decide)
    | rest h2 => rw [hf] at h2; exact absurd h2 (by decide)
end step
end Go.Proofs.Ytahfnbpbdnmggaa
/-
  Our own: a sliding: each step keeps what stays true, continued.
-/
set_option linter.unusedVariables false
set_option linter.unusedSimpArgs false
namespace Go.Proofs.Ytahfnbpbdnmggaa
open Go.Sep
section inv
variable {T w nR : Nat} {ws : List Int} {os : List RO} {ms : List Nat} {sts : List Int} {C D : Nat} {Q A Z : Nat → Nat} {x : WX}
theorem WOk.object_inv (h : WOk T w nR ws os ms sts C D Q A Z x) (hf : x.fn = fnO) : ∃ k : Nat, x.region = k ∧ k < nR ∧ k < C ∧ sts[3 + k]? = some 0 ∧ Q k ≤ (inR w k (lvs ms os)).length ∧ A k = 0 ∧ x.ol = olI w k (Q k) (lvs ms os) ∧ AhD w (lvs ms os) sts k := by
  cases h with
    | object h k hr hk hC h0 hQ hA ho hd => exact ⟨k, hr, hk, hC, h0, hQ, hA, ho, hd⟩
    | claim h2 => rw [hf] at h2; exact absurd h2 (by decide)
    | ready h2 => rw [hf] at h2; exact absurd h2 (by decide)
    | fetch h2 => rw [hf] at h2; exact absurd h2 (by decide)
    | lay h2 => rw [hf] at h2; exact absurd h2 (by decide)
    | all h2 => rw [hf] at h2; exact absurd h2 (by decide)
    | part h2 => rw [hf] at h2; exact absurd h2 (by decide)
    | clear h2 => rw [hf] at h2; exact absurd h2 (by decide)
    | rest h2 => rw [hf] at h2; exact absurd h2 (by decide)
theorem WOk.fetch_inv (h : WOk T w nR ws os ms sts C D Q A Z x) (hf : x.fn = fnF) : ∃ k : Nat, x.region = k ∧ k < nR ∧ k < C ∧ sts[3 + k]? = some 0 ∧ x.ol = olI w k (Q k + 1) (lvs ms os) ∧ AhD w (lvs ms os) sts k ∧ ∃ (o : RO) (j : Nat), Cur ws os ms w k (Q k) (A k) x o j := by
  cases h with
    | fetch h k hr hk hC h0 ho hd o j hc => exact ⟨k, hr, hk, hC, h0, ho, hd, o, j, hc⟩
    | claim h2 => rw [hf] at h2; exact absurd h2 (by decide)
    | ready h2 => rw [hf] at h2; exact absurd h2 (by decide)
    | object h2 => rw [hf] at h2; exact absurd h2 (by decide)
    | lay h2 => rw [hf] at h2; exact absurd h2 (by decide)
    | all h2 => rw [hf] at h2; exact absurd h2 (by decide)
    | part h2 => rw [hf] at h2; exact absurd h2 (by decide)
    | clear h2 => rw [hf] at h2; exact absurd h2 (by decide)
    | rest h2 => rw [hf] at h2; exact absurd h2 (by decide)
theorem WOk.lay_inv (h : WOk T w nR ws os ms sts C D Q A Z x) (hf : x.fn = fnL) : ∃ k : Nat, x.region = k ∧ k < nR ∧ k < C ∧ sts[3 + k]? = some 0 ∧ x.ol = olI w k (Q k + 1) (lvs ms os) ∧ AhD w (lvs ms os) sts k ∧ ∃ (o : RO) (j : Nat), Cur ws os ms w k (Q k) (A k) x o j ∧ ws[o.i + A k]? = some x.word := by
  cases h with
    | lay h k hr hk hC h0 ho hd o j hc hw => exact ⟨k, hr, hk, hC, h0, ho, hd, o, j, hc, hw⟩
    | claim h2 => rw [hf] at h2; exact absurd h2 (by decide)
    | ready h2 => rw [hf] at h2; exact absurd h2 (by decide)
    | object h2 => rw [hf] at h2; exact absurd h2 (by decide)
    | fetch h2 => rw [hf] at h2; exact absurd h2 (by decide)
    | all h2 => rw [hf] at h2; exact absurd h2 (by decide)
    | part h2 => rw [hf] at h2; exact absurd h2 (by decide)
    | clear h2 => rw [hf] at h2; exact absurd h2 (by decide)
    | rest h2 => rw [hf] at h2; exact absurd h2 (by decide)
theorem WOk.all_inv (h : WOk T w nR ws os ms sts C D Q A Z x) (hf : x.fn = fnA) : nR < C ∧ ∃ a : Nat, x.at_ = a ∧ a ≤ nR ∧ ∀ k, k < a → sts[3 + k]? = some 1 := by
  cases h with
    | all h hC a ha hn hd => exact ⟨hC, a, ha, hn, hd⟩
    | claim h2 => rw [hf] at h2; exact absurd h2 (by decide)
    | ready h2 => rw [hf] at h2; exact absurd h2 (by decide)
    | object h2 => rw [hf] at h2; exact absurd h2 (by decide)
    | fetch h2 => rw [hf] at h2; exact absurd h2 (by decide)
    | lay h2 => rw [hf] at h2; exact absurd h2 (by decide)
    | part h2 => rw [hf] at h2; exact absurd h2 (by decide)
    | clear h2 => rw [hf] at h2; exact absurd h2 (by decide)
    | rest h2 => rw [hf] at h2; exact absurd h2 (by decide)
theorem WOk.part_inv (h : WOk T w nR ws os ms sts C D Q A Z x) (hf : x.fn = fnP) : AllD nR sts := by
  cases h with
    | part h hd => exact hd
    | claim h2 => rw [hf] at h2; exact absurd h2 (by decide)
    | ready h2 => rw [hf] at h2; exact absurd h2 (by decide)
    | object h2 => rw [hf] at h2; exact absurd h2 (by decide)
    | fetch h2 => rw [hf] at h2; exact absurd h2 (by decide)
    | lay h2 => rw [hf] at h2; exact absurd h2 (by decide)
    | all h2 => rw [hf] at h2; exact absurd h2 (by decide)
    | clear h2 => rw [hf] at h2; exact absurd h2 (by decide)
    | rest h2 => rw [hf] at h2; exact absurd h2 (by decide)
theorem WOk.clear_inv (h : WOk T w nR ws os ms sts C D Q A Z x) (hf : x.fn = fnZ) : AllD nR sts ∧ ∃ c : Nat, c < partsI T (szL (lvs ms os)) ∧ c < D ∧ x.end_ = (partE T (szL (lvs ms os)) c : Nat) ∧ x.at_ = (szL (lvs ms os) + c * 16 + Z c : Nat) := by
  cases h with
    | clear h hd c hc hD he ha => exact ⟨hd, c, hc, hD, he, ha⟩
    | claim h2 => rw [hf] at h2; exact absurd h2 (by decide)
    | ready h2 => rw [hf] at h2; exact absurd h2 (by decide)
    | object h2 => rw [hf] at h2; exact absurd h2 (by decide)
    | fetch h2 => rw [hf] at h2; exact absurd h2 (by decide)
    | lay h2 => rw [hf] at h2; exact absurd h2 (by decide)
    | all h2 => rw [hf] at h2; exact absurd h2 (by decide)
    | part h2 => rw [hf] at h2; exact absurd h2 (by decide)
    | rest h2 => rw [hf] at h2; exact absurd h2 (by decide)
theorem WOk.rest_inv (h : WOk T w nR ws os ms sts C D Q A Z x) (hf : x.fn = fnX) : AllD nR sts ∧ partsI T (szL (lvs ms os)) < D := by
  cases h with
    | rest h hd hD => exact ⟨hd, hD⟩
    | claim h2 => rw [hf] at h2; exact absurd h2 (by decide)
    | ready h2 => rw [hf] at h2; exact absurd h2 (by decide)
    | object h2 => rw [hf] at h2; exact absurd h2 (by decide)
    | fetch h2 => rw [hf] at h2; exact absurd h2 (by decide)
    | lay h2 => rw [hf] at h2; exact absurd h2 (by decide)
    | all h2 => rw [hf] at h2; exact absurd h2 (by decide)
    | part h2 => rw [hf] at h2; exact absurd h2 (by decide)
    | clear h2 => rw [hf] at h2; exact absurd h2 (by decide)
theorem WOk.ready_inv (h : WOk T w nR ws os ms sts C D Q A Z x) (hf : x.fn = fnR) : ∃ k : Nat, x.region = k ∧ k < nR ∧ k < C ∧ sts[3 + k]? = some 0 ∧ x.ol = olI w k 0 (lvs ms os) ∧ x.wl.length ≤ k ∧ ∀ r ∈ x.wl, ∃ r' : Nat, r = r' ∧ r' < k := by
  cases h with
    | ready h k hr hk hC h0 hQ hA ho hl hb hd => exact ⟨k, hr, hk, hC, h0, ho, hl, hb⟩
    | claim h2 => rw [hf] at h2; exact absurd h2 (by decide)
    | object h2 => rw [hf] at h2; exact absurd h2 (by decide)
    | fetch h2 => rw [hf] at h2; exact absurd h2 (by decide)
    | lay h2 => rw [hf] at h2; exact absurd h2 (by decide)
    | all h2 => rw [hf] at h2; exact absurd h2 (by decide)
    | part h2 => rw [hf] at h2; exact absurd h2 (by decide)
    | clear h2 => rw [hf] at h2; exact absurd h2 (by decide)
    | rest h2 => rw [hf] at h2; exact absurd h2 (by decide)
theorem WOk.fns (h : WOk T w nR ws os ms sts C D Q A Z x) : x.fn = fnC ∨ x.fn = fnR ∨ x.fn = fnO ∨ x.fn = fnF ∨ x.fn = fnL ∨ x.fn = fnA ∨ x.fn = fnP ∨ x.fn = fnZ ∨ x.fn = fnX := by
  cases h <;> simp [*]
end inv
section step
variable {n T w nR : Nat} {ws : List Int} {os : List RO} {ms : List Nat} {xs : List WX} {sts wds : List Int} {mv : Int} {C D : Nat} {Q A Z : Nat → Nat} {j : Nat} {x : WX}
theorem olI_next {k q : Nat} {L : List RO} {o : RO} (h : (inR w k L)[q]? = some o) : olI w k q L = (o.i : Int) :: olI w k (q + 1) L := by
  obtain ⟨h1, h2⟩ := List.getElem?_eq_some_iff.1 h
  unfold olI
  rw [List.drop_eq_getElem_cons h1, h2]
  rfl
theorem olI_end {k q : Nat} {L : List RO} (h : (inR w k L).length ≤ q) : olI w k q L = [] := by
  unfold olI
  rw [List.drop_eq_nil_of_le h]; rfl
theorem set3k {v : Int} {k r : Nat} (h : r ≠ k) : (sts.set (3 + k) v)[3 + r]? = sts[3 + r]? := List.getElem?_set_ne (by omega)
/-- A region is done. -/
theorem SI.object_end (h : SI n T w nR ws os ms xs sts wds mv C D Q A Z) (hj : xs[j]? = some x) (hf : x.fn = fnO) {k : Nat} (hr : x.region = k) (ho : x.ol = []) :
    SI n T w nR ws os ms (xs.set j { x with fn := fnC }) (sts.set (3 + k) 1) wds mv C D Q A Z := by
  have hsl := h.sl
  have hx := h.wk j x hj
  obtain ⟨k', hr', hk, hC, h0, hQ, hA, hol, hd⟩ := hx.object_inv hf
  obtain rfl : k' = k := by omega
  obtain ⟨E, e1, e2⟩ := h.s2
  have hlen : Q k' = (inR w k' (lvs ms os)).length := by
    rcases Nat.lt_or_ge (Q k') (inR w k' (lvs ms os)).length with e | e
    · rw [olI_next (List.getElem?_eq_getElem e)] at hol
      rw [hol] at ho; cases ho
    · omega
  have hOn : OnR x k' := ⟨.inr (.inl hf), hr⟩
  have h3 : ∀ r, sts[3 + r]? = some 1 → (sts.set (3 + k') 1)[3 + r]? = some 1 := fun r h1 => by
    by_cases e : r = k'
    · subst e
      rw [h0] at h1
      injection h1 with h1
      exact absurd h1 (by decide)
    · rw [set3k e]; exact h1
  have hk1 : (sts.set (3 + k') 1)[3 + k']? = some 1 := by rw [List.getElem?_set, if_pos rfl, if_pos (by omega)]
  generalize hx' : ({ x with fn := fnC } : WX) = x'
  have hfn : x'.fn = fnC := by rw [← hx']
  refine h.upd hj x' (by rw [← hx']) (by simp [hsl]) (by rw [List.getElem?_set_ne (by omega)]; exact h.s0) (by rw [List.getElem?_set_ne (by omega)]; exact h.s1) ⟨E, by rw [List.getElem?_set_ne (by omega)]; exact e1, ?_⟩ (Nat.le_refl _) (Nat.le_refl _)
    h3 (fun r hr hon => .inr (by rw [hon.inj hOn]; exact hk1)) (fun r => ?_) (fun c => .inr rfl) h.wl h.wv h.mq (fun r hr => absurd hr (not_R hfn (by decide) r)) (fun r hon => .inr (by rw [hon.inj hOn, hk1]; intro e; injection e with e; exact absurd e (by decide)))
    (fun k _ h1 h2 => by omega) (fun r hon _ => by rw [hon.inj hOn]; exact ⟨hlen, hA⟩) (fun r hon _ => by rw [hon.inj hOn]; exact hd.mono h3) (fun c hc => absurd hc (not_P hfn (by decide) c)) (fun c hc => absurd hc (not_P hf (by decide) c)) (fun c _ h1 h2 => by omega) (fun c _ => h.zl c) (.claim hfn)
  · have := countP_set (p := isZ) (x' := x') hj
    rw [isZ_no hf (by decide), isZ_no hfn (by decide)] at this
    omega
  · by_cases e : r = k'
    · rw [e]; exact .inl hOn
    · exact .inr ⟨set3k e, rfl, rfl⟩
/-- The next object begins. -/
theorem SI.object_next (hc : Ch ws 0 os T) (h : SI n T w nR ws os ms xs sts wds mv C D Q A Z) (hj : xs[j]? = some x) (hf : x.fn = fnO) {k : Nat} (hr : x.region = k) {y : Int} {rest : List Int} (ho : x.ol = y :: rest) :
    ∃ (i : Nat) (o : RO), os[i]? = some o ∧ lvB ms o = true ∧ y = o.i ∧ ∀ (oa' : Option Addr) (oc' : Nat),
      SI n T w nR ws os ms (xs.set j { x with fn := fnF, oa := oa', ol := rest, oc := oc', from_ := o.i, to := (goI ms os i : Nat), size := 1 + (o.ws.length : Int), refs := o.p, at_ := 0 }) sts wds mv C D Q A Z := by
  have hx := h.wk j x hj
  obtain ⟨k', hr', hk, hC, h0, hQ, hA, hol, hd⟩ := hx.object_inv hf
  obtain rfl : k' = k := by omega
  have hlt : Q k' < (inR w k' (lvs ms os)).length := by
    rcases Nat.lt_or_ge (Q k') (inR w k' (lvs ms os)).length with e | e
    · exact e
    · rw [olI_end e] at hol
      rw [hol] at ho; cases ho
  have hq := List.getElem?_eq_getElem hlt
  generalize (inR w k' (lvs ms os))[Q k'] = o at hq
  obtain ⟨i, hi, hl, hgo⟩ := reg_obj hc hq
  rw [olI_next hq] at hol
  rw [hol] at ho
  injection ho with ho1 ho2
  refine ⟨i, o, hi, hl, ho1.symm, fun oa' oc' => ?_⟩
  generalize hx' : ({ x with fn := fnF, oa := oa', ol := rest, oc := oc', from_ := o.i, to := (goI ms os i : Nat), size := 1 + (o.ws.length : Int), refs := o.p, at_ := 0 } : WX) = x'
  have hfn : x'.fn = fnF := by rw [← hx']
  refine h.quiet hj x' (by rw [← hx']) (by rw [isZ_no hf (by decide), isZ_no hfn (by decide)]) (fun k => ?_) (fun c => ⟨fun hc => absurd hc (not_P hfn (by decide) c), fun hc => absurd hc (not_P hf (by decide) c)⟩) ?_
  · unfold OnR
    rw [hfn, hf, ← hx']
    simp
  · exact .fetch hfn k' (by rw [← hx']; exact hr) hk hC h0 (by rw [← hx']; exact ho2.symm) hd o i ⟨hq, hi, hl, hgo, by rw [← hx'], by rw [← hx'], by rw [← hx'], by rw [← hx'], by rw [← hx', hA]; rfl, by rw [hA]; omega⟩
theorem SI.pr_le (h : SI n T w nR ws os ms xs sts wds mv C D Q A Z) {r : Nat} (hr : r < nR) : prI w (lvs ms os) Q A r ≤ lvI w (lvs ms os) r := by
  unfold prI
  rcases Nat.lt_or_ge r C with e | e
  · rcases h.d01 r hr with h0 | h1
    · obtain ⟨i, y, hi, hy⟩ := h.ow r hr e h0
      have hw := h.wk i y hi
      have key : ∀ (o : RO) (j : Nat), Cur ws os ms w r (Q r) (A r) y o j → szL ((inR w r (lvs ms os)).take (Q r)) + A r ≤ lvI w (lvs ms os) r := fun o j hc => by
        have h1 := szL_next_le hc.hq
        have h2 := hc.lt
        show _ ≤ szL (inR w r (lvs ms os))
        omega
      rcases hy.1 with hf | hf | hf | hf
      · cases hw with
        | ready _ k hr' hk hC h0 hQ hA ho hl hb hd =>
          obtain rfl : k = r := by have := hy.2; omega
          rw [hQ, hA]
          exact Nat.zero_le _
        | claim h2 => rw [hf] at h2; exact absurd h2 (by decide)
        | object h2 => rw [hf] at h2; exact absurd h2 (by decide)
        | fetch h2 => rw [hf] at h2; exact absurd h2 (by decide)
        | lay h2 => rw [hf] at h2; exact absurd h2 (by decide)
        | all h2 => rw [hf] at h2; exact absurd h2 (by decide)
        | part h2 => rw [hf] at h2; exact absurd h2 (by decide)
        | clear h2 => rw [hf] at h2; exact absurd h2 (by decide)
        | rest h2 => rw [hf] at h2; exact absurd h2 (by decide)
      · obtain ⟨k, hr', hk, hC, h0, hQ, hA, ho, hd⟩ := hw.object_inv hf
        obtain rfl : k = r := by have := hy.2; omega
        rw [hA]
        exact szL_take
      · obtain ⟨k, hr', hk, hC, h0, ho, hd, o, j, hc⟩ := hw.fetch_inv hf
        obtain rfl : k = r := by have := hy.2; omega
        exact key o j hc
      · obtain ⟨k, hr', hk, hC, h0, ho, hd, o, j, hc, _⟩ := hw.lay_inv hf
        obtain rfl : k = r := by have := hy.2; omega
        exact key o j hc
    · obtain ⟨e1, e2⟩ := h.fu r hr h1
      rw [e1, e2]
      exact szL_take
  · obtain ⟨e1, e2, _⟩ := h.fr r e
    rw [e1, e2]
    exact Nat.zero_le _
/-- A word that is loaded is what it was. -/
theorem SI.fetched (hc : Ch ws 0 os T) (h : SI n T w nR ws os ms xs sts wds mv C D Q A Z) {k i : Nat} {o : RO} (hk : k < nR) (h0 : sts[3 + k]? = some 0) (hcu : Cur ws os ms w k (Q k) (A k) x o i) :
    wds[o.i + A k]? = ws[o.i + A k]? := by
  obtain ⟨hq, hi, hl, hgo, _, _, _, _, _, hlt⟩ := hcu
  refine (h.wv _).2 ?_
  have hgl := goI_le ms hc hi
  have hex := ext_in hc hq
  have hgn := szL_next_le hq
  rintro (⟨r, hr, hr1, hr2⟩ | ⟨c, hc1, hc2, hc3⟩)
  · have hpr := h.pr_le hr
    rcases Nat.lt_trichotomy r k with e | e | e
    · have := fst_apart (w := w) (lvs ms os) e
      omega
    · subst e
      unfold prI at hr2
      omega
    · have hpos : 0 < Q r + A r := by
        rcases Nat.eq_zero_or_pos (Q r + A r) with e0 | e0
        · exfalso
          have h1 : Q r = 0 := by omega
          have h2 : A r = 0 := by omega
          unfold prI at hr2
          rw [h1, h2] at hr2
          have : szL ((inR w r (lvs ms os)).take 0) = 0 := rfl
          omega
        · exact e0
      cases hb : ahB w (lvs ms os) r k with
      | true =>
        have h1 := h.ah r hr hpos k e hb
        rw [h0] at h1; injection h1 with h1; exact absurd h1 (by decide)
      | false =>
        unfold ahB at hb
        rw [Bool.and_eq_false_iff, decide_eq_false_iff_not, decide_eq_false_iff_not] at hb
        omega
  · have hz : 0 < Z c := by omega
    have h1 := h.za c hz k hk
    rw [h0] at h1; injection h1 with h1; exact absurd h1 (by decide)
theorem SI.fetch (h : SI n T w nR ws os ms xs sts wds mv C D Q A Z) (hj : xs[j]? = some x) (hf : x.fn = fnF) {k i : Nat} {o : RO} (hr : x.region = k) (hcu : Cur ws os ms w k (Q k) (A k) x o i) {v : Int} (hv : ws[o.i + A k]? = some v) :
    SI n T w nR ws os ms (xs.set j { x with word := v, fn := fnL }) sts wds mv C D Q A Z := by
  have hx := h.wk j x hj
  obtain ⟨k', hr', hk, hC, h0, ho, hd, _⟩ := hx.fetch_inv hf
  obtain rfl : k' = k := by omega
  generalize hx' : ({ x with word := v, fn := fnL } : WX) = x'
  have hfn : x'.fn = fnL := by rw [← hx']
  refine h.quiet hj x' (by rw [← hx']) (by rw [isZ_no hf (by decide), isZ_no hfn (by decide)]) (fun k => ?_) (fun c => ⟨fun hc => absurd hc (not_P hfn (by decide) c), fun hc => absurd hc (not_P hf (by decide) c)⟩) ?_
  · unfold OnR
    rw [hfn, hf, ← hx']
    simp
  · obtain ⟨hq, hi, hl, hgo, a1, a2, a3, a4, a5, hlt⟩ := hcu
    exact .lay hfn k' (by rw [← hx']; exact hr) hk hC h0 (by rw [← hx']; exact ho) hd o i ⟨hq, hi, hl, hgo, by rw [← hx']; exact a1, by rw [← hx']; exact a2, by rw [← hx']; exact a3, by rw [← hx']; exact a4, by rw [← hx']; exact a5, hlt⟩ (by rw [← hx']; exact hv)
/-- One word more is as it will be. -/
theorem wv_step {WR WR' : Nat → Prop} {NW : List Int} {p : Nat} {v : Int} (h : ∀ x, (WR x → wds[x]? = NW[x]?) ∧ (¬ WR x → wds[x]? = ws[x]?)) (hW : ∀ x, WR' x ↔ WR x ∨ x = p) (hp : p < wds.length) (hv : NW[p]? = some v) :
    ∀ x, (WR' x → (wds.set p v)[x]? = NW[x]?) ∧ (¬ WR' x → (wds.set p v)[x]? = ws[x]?) := by
  intro y
  by_cases e : y = p
  · subst e
    refine ⟨fun _ => ?_, fun hn => absurd ((hW y).2 (.inr rfl)) hn⟩
    rw [List.getElem?_set, if_pos rfl, if_pos hp, hv]
  · rw [List.getElem?_set_ne (Ne.symm e)]
    refine ⟨fun hy => ?_, fun hn => (h y).2 fun hy => hn ((hW y).2 (.inl hy))⟩
    rcases (hW y).1 hy with hy | hy
    · exact (h y).1 hy
    · exact absurd hy e
/-- A word is laid. -/
theorem SI.lay (hc : Ch ws 0 os T) (hwl : ws.length = n) (htn : T ≤ n) (h : SI n T w nR ws os ms xs sts wds mv C D Q A Z) (hj : xs[j]? = some x) (hf : x.fn = fnL) {k i : Nat} {o : RO} (hr : x.region = k) (hcu : Cur ws os ms w k (Q k) (A k) x o i) {v : Int} (hv : (nwO ms os o)[A k]? = some v) :
    ∃ Q' A', SI n T w nR ws os ms (xs.set j { x with word := v, at_ := (A k : Int) + 1, fn := if (A k : Int) + 1 = x.size then fnO else fnF }) sts (wds.set (goI ms os i + A k) v) (if (A k : Int) + 1 = x.size then mv + 1 else mv) C D Q' A' Z := by
  have hx := h.wk j x hj
  obtain ⟨k', hr', hk, hC, h0, ho, hd, _⟩ := hx.lay_inv hf
  obtain rfl : k' = k := by omega
  obtain ⟨hq, hi, hl, hgo, a1, a2, a3, a4, a5, hlt⟩ := hcu
  have hOn : OnR x k' := ⟨.inr (.inr (.inr hf)), hr⟩
  have hgn := szL_next_le hq
  have hNW : (NWI T ws ms os)[goI ms os i + A k']? = some v := (NWI_obj hi hl hlt).trans hv
  have hNl := NWI_len (ms := ms) hc hwl htn
  have hpl : goI ms os i + A k' < wds.length := by
    have := (List.getElem?_eq_some_iff.1 hNW).1
    rw [h.wl]; omega
  obtain ⟨E, e1, e2⟩ := h.s2
  have hWR : ∀ (Q' A' : Nat → Nat), (∀ r, r ≠ k' → Q' r = Q r ∧ A' r = A r) → prI w (lvs ms os) Q' A' k' = prI w (lvs ms os) Q A k' + 1 → ∀ y, WrI T w nR (lvs ms os) Q' A' Z y ↔ WrI T w nR (lvs ms os) Q A Z y ∨ y = goI ms os i + A k' := by
    intro Q' A' hne hp y
    have hpk : fstI w (lvs ms os) k' + prI w (lvs ms os) Q A k' = goI ms os i + A k' := by unfold prI; omega
    have hpr : ∀ r, r ≠ k' → prI w (lvs ms os) Q' A' r = prI w (lvs ms os) Q A r := fun r hr => by unfold prI; rw [(hne r hr).1, (hne r hr).2]
    constructor
    · rintro (⟨r, b1, b2, b3⟩ | hz)
      · by_cases e : r = k'
        · subst e
          rw [hp] at b3
          rcases Nat.lt_or_ge y (fstI w (lvs ms os) r + prI w (lvs ms os) Q A r) with e3 | e3
          · exact .inl (.inl ⟨r, b1, b2, e3⟩)
          · right; omega
        · rw [hpr r e] at b3
          exact .inl (.inl ⟨r, b1, b2, b3⟩)
      · exact .inl (.inr hz)
    · rintro ((⟨r, b1, b2, b3⟩ | hz) | rfl)
      · left
        refine ⟨r, b1, b2, ?_⟩
        by_cases e : r = k'
        · subst e; rw [hp]; omega
        · rw [hpr r e]; exact b3
      · exact .inr hz
      · left
        exact ⟨k', hk, by omega, by rw [hp]; omega⟩
  generalize hx' : ({ x with word := v, at_ := (A k' : Int) + 1, fn := if (A k' : Int) + 1 = x.size then fnO else fnF } : WX) = x'
  have hrg : x'.region = k' := by rw [← hx']; exact hr
  have hback : ∀ r, OnR x' r → OnR x r := fun r hon => by
    have h1 := hon.2
    rw [hrg] at h1
    obtain rfl : r = k' := by omega
    exact hOn
  have hcnt : ∀ f, x'.fn = f → f ≠ fnZ → E + (xs.set j x').countP isZ = min D (partsI T (szL (lvs ms os))) := fun f hfn hne => by
    have := countP_set (p := isZ) (x' := x') hj
    rw [isZ_no hf (by decide), isZ_no hfn hne] at this
    omega
  by_cases hlast : (A k' : Int) + 1 = x.size
  · have hfn : x'.fn = fnO := by rw [← hx']; exact if_pos hlast
    rw [if_pos hlast]
    have hal : A k' = o.ws.length := by omega
    refine ⟨updN Q k' (Q k' + 1), updN A k' 0, h.upd hj x' (by rw [← hx']) h.sl h.s0 h.s1 ⟨E, e1, hcnt _ hfn (by decide)⟩ (Nat.le_refl _) (Nat.le_refl _) (fun _ h => h) (fun r hr _ => h.d01 r hr)
      (fun r => ?_) (fun c => .inr rfl) (by rw [List.length_set]; exact h.wl) (wv_step h.wv (hWR _ _ (fun r hne => ⟨updN_ne hne, updN_ne hne⟩) ?_) hpl hNW) (by rw [updN_sum hk, h.mq]; rfl) (fun r hon => .inl (hback r hon)) (fun r hon => .inl ⟨.inr (.inl hfn), by rw [hrg, hon.inj hOn]⟩)
      (fun k _ h1 h2 => by omega) (fun r hon h1 => ?_) (fun r hon _ => by rw [hon.inj hOn]; exact hd) (fun c hc => absurd hc (not_P hfn (by decide) c)) (fun c hc => absurd hc (not_P hf (by decide) c)) (fun c _ h1 h2 => by omega) (fun c _ => h.zl c) ?_⟩
    · by_cases e : r = k'
      · rw [e]; exact .inl hOn
      · exact .inr ⟨rfl, updN_ne e, updN_ne e⟩
    · unfold prI
      rw [updN_hit, updN_hit, szL_next hq]
      omega
    · rw [hon.inj hOn, h0] at h1; injection h1 with h1; exact absurd h1 (by decide)
    · have hql := (List.getElem?_eq_some_iff.1 hq).1
      exact .object hfn k' hrg hk hC h0 (by rw [updN_hit]; omega) updN_hit (by rw [← hx', updN_hit]; exact ho) hd
  · have hfn : x'.fn = fnF := by rw [← hx']; exact if_neg hlast
    rw [if_neg hlast]
    refine ⟨Q, updN A k' (A k' + 1), h.upd hj x' (by rw [← hx']) h.sl h.s0 h.s1 ⟨E, e1, hcnt _ hfn (by decide)⟩ (Nat.le_refl _) (Nat.le_refl _) (fun _ h => h) (fun r hr _ => h.d01 r hr)
      (fun r => ?_) (fun c => .inr rfl) (by rw [List.length_set]; exact h.wl) (wv_step h.wv (hWR _ _ (fun r hne => ⟨rfl, updN_ne hne⟩) ?_) hpl hNW) h.mq (fun r hon => .inl (hback r hon)) (fun r hon => .inl ⟨.inr (.inr (.inl hfn)), by rw [hrg, hon.inj hOn]⟩)
      (fun k _ h1 h2 => by omega) (fun r hon h1 => ?_) (fun r hon _ => by rw [hon.inj hOn]; exact hd) (fun c hc => absurd hc (not_P hfn (by decide) c)) (fun c hc => absurd hc (not_P hf (by decide) c)) (fun c _ h1 h2 => by omega) (fun c _ => h.zl c) ?_⟩
    · by_cases e : r = k'
      · rw [e]; exact .inl hOn
      · exact .inr ⟨rfl, rfl, updN_ne e⟩
    · unfold prI
      rw [updN_hit]
      omega
    · rw [hon.inj hOn, h0] at h1; injection h1 with h1; exact absurd h1 (by decide)
    · exact .fetch hfn k' hrg hk hC h0 (by rw [← hx']; exact ho) hd o i ⟨hq, hi, hl, hgo, by rw [← hx']; exact a1, by rw [← hx']; exact a2, by rw [← hx']; exact a3, by rw [← hx']; exact a4, by rw [← hx', updN_hit]; rfl, by rw [updN_hit]; omega⟩
end step
end Go.Proofs.Ytahfnbpbdnmggaa
/-
  Our own: a sliding: each step keeps what stays true: regions looked at, parts cleared; what holds when it is over.
-/
set_option linter.unusedVariables false
set_option linter.unusedSimpArgs false
namespace Go.Proofs.Ytahfnbpbdnmggaa
open Go.Sep
theorem befR_len {w k : Nat} : ∀ {L : List RO}, (befR w (k + 1) L).length = (inR w k L).length + (befR w k L).length
  | [] => rfl
  | o :: L => by
    have ih := befR_len (w := w) (k := k) (L := L)
    unfold befR inR at ih ⊢
    simp only [List.filter_cons]
    by_cases e : o.i / w = k
    · simp only [e, decide_true, if_true, show k < k + 1 by omega, show ¬ k < k by omega, decide_false, Bool.false_eq_true, if_false, List.length_cons]
      omega
    · by_cases e2 : o.i / w < k
      · simp only [e, e2, decide_true, if_true, show o.i / w < k + 1 by omega, decide_false, Bool.false_eq_true, if_false, List.length_cons]
        omega
      · simp only [e, e2, show ¬ o.i / w < k + 1 by omega, decide_false, Bool.false_eq_true, if_false]
        omega
section step
variable {n T w nR : Nat} {ws : List Int} {os : List RO} {ms : List Nat} {xs : List WX} {sts wds : List Int} {mv : Int} {C D : Nat} {Q A Z : Nat → Nat} {j : Nat} {x : WX}
theorem SI.all_end (h : SI n T w nR ws os ms xs sts wds mv C D Q A Z) (hj : xs[j]? = some x) (hf : x.fn = fnA) (ha : x.at_ = nR) : SI n T w nR ws os ms (xs.set j { x with fn := fnP }) sts wds mv C D Q A Z := by
  obtain ⟨hC, a, ha2, han, hd⟩ := (h.wk j x hj).all_inv hf
  generalize hx' : ({ x with fn := fnP } : WX) = x'
  have hfn : x'.fn = fnP := by rw [← hx']
  exact h.quiet hj x' (by rw [← hx']) (by rw [isZ_no hf (by decide), isZ_no hfn (by decide)]) (fun k => ⟨fun hc => absurd hc (not_R hfn (by decide) k), fun hc => absurd hc (not_R hf (by decide) k)⟩) (fun c => ⟨fun hc => absurd hc (not_P hfn (by decide) c), fun hc => absurd hc (not_P hf (by decide) c)⟩)
    (.part hfn fun k hk => hd k (by omega))
theorem SI.all_look (h : SI n T w nR ws os ms xs sts wds mv C D Q A Z) (hj : xs[j]? = some x) (hf : x.fn = fnA) {a : Nat} (ha : x.at_ = a) (hn : a < nR) (h1 : sts[3 + a]? = some 1) : SI n T w nR ws os ms (xs.set j { x with at_ := (a : Int) + 1 }) sts wds mv C D Q A Z := by
  obtain ⟨hC, a2, ha2, han, hd⟩ := (h.wk j x hj).all_inv hf
  obtain rfl : a2 = a := by omega
  generalize hx' : ({ x with at_ := (a2 : Int) + 1 } : WX) = x'
  have hfn : x'.fn = fnA := by rw [← hx']; exact hf
  refine h.quiet hj x' (by rw [← hx']) (by rw [isZ_no hf (by decide), isZ_no hfn (by decide)]) (fun k => ⟨fun hc => absurd hc (not_R hfn (by decide) k), fun hc => absurd hc (not_R hf (by decide) k)⟩) (fun c => ⟨fun hc => absurd hc (not_P hfn (by decide) c), fun hc => absurd hc (not_P hf (by decide) c)⟩)
    (.all hfn hC (a2 + 1) (by rw [← hx']; rfl) (by omega) fun k hk => ?_)
  by_cases e : k = a2
  · rw [e]; exact h1
  · exact hd k (by omega)
theorem SI.part_none (h : SI n T w nR ws os ms xs sts wds mv C D Q A Z) (hj : xs[j]? = some x) (hf : x.fn = fnP) (hD : partsI T (szL (lvs ms os)) ≤ D) :
    SI n T w nR ws os ms (xs.set j { x with fn := fnX }) (sts.set 1 (D + 1)) wds mv C (D + 1) Q A Z := by
  have hsl := h.sl
  have hd := (h.wk j x hj).part_inv hf
  obtain ⟨E, e1, e2⟩ := h.s2
  generalize hx' : ({ x with fn := fnX } : WX) = x'
  have hfn : x'.fn = fnX := by rw [← hx']
  refine h.upd hj x' (by rw [← hx']) (by simp [hsl]) (by rw [List.getElem?_set_ne (by decide)]; exact h.s0) (by rw [List.getElem?_set, if_pos rfl, if_pos (by omega)]; rfl) ⟨E, by rw [List.getElem?_set_ne (by decide)]; exact e1, ?_⟩ (Nat.le_refl _) (by omega)
    (fun r h1 => by rw [set3 (by decide)]; exact h1) (fun k hk _ => by rw [set3 (by decide)]; exact h.d01 k hk) (fun k => .inr ⟨set3 (by decide), rfl, rfl⟩) (fun c => .inr rfl) h.wl h.wv h.mq (fun k hk => absurd hk (not_R hfn (by decide) k)) (fun k hk => absurd hk (not_R hf (by decide) k))
    (fun k _ h1 h2 => by omega) (fun k hk => absurd hk (not_R hf (by decide) k)) (fun k hk => absurd hk (not_R hf (by decide) k)) (fun c hc => absurd hc (not_P hfn (by decide) c)) (fun c hc => absurd hc (not_P hf (by decide) c)) (fun c h0 h1 h2 => by omega) (fun c _ => h.zl c)
    (.rest hfn (fun k hk => by rw [set3 (by decide)]; exact hd k hk) (by omega))
  have := countP_set (p := isZ) (x' := x') hj
  rw [isZ_no hf (by decide), isZ_no hfn (by decide)] at this
  omega
theorem SI.part_next (h : SI n T w nR ws os ms xs sts wds mv C D Q A Z) (hj : xs[j]? = some x) (hf : x.fn = fnP) (hD : D < partsI T (szL (lvs ms os))) :
    SI n T w nR ws os ms (xs.set j { x with fn := fnZ, at_ := (szL (lvs ms os) + D * 16 : Nat), end_ := (partE T (szL (lvs ms os)) D : Nat) }) (sts.set 1 (D + 1)) wds mv C (D + 1) Q A Z := by
  have hsl := h.sl
  have hd := (h.wk j x hj).part_inv hf
  obtain ⟨E, e1, e2⟩ := h.s2
  have hz := h.zf D (Nat.le_refl _)
  generalize hx' : ({ x with fn := fnZ, at_ := (szL (lvs ms os) + D * 16 : Nat), end_ := (partE T (szL (lvs ms os)) D : Nat) } : WX) = x'
  have hfn : x'.fn = fnZ := by rw [← hx']
  have hen : x'.end_ = (partE T (szL (lvs ms os)) D : Nat) := by rw [← hx']
  refine h.upd hj x' (by rw [← hx']) (by simp [hsl]) (by rw [List.getElem?_set_ne (by decide)]; exact h.s0) (by rw [List.getElem?_set, if_pos rfl, if_pos (by omega)]; rfl) ⟨E, by rw [List.getElem?_set_ne (by decide)]; exact e1, ?_⟩ (Nat.le_refl _) (by omega)
    (fun r h1 => by rw [set3 (by decide)]; exact h1) (fun k hk _ => by rw [set3 (by decide)]; exact h.d01 k hk) (fun k => .inr ⟨set3 (by decide), rfl, rfl⟩) (fun c => .inr rfl) h.wl h.wv h.mq (fun k hk => absurd hk (not_R hfn (by decide) k)) (fun k hk => absurd hk (not_R hf (by decide) k))
    (fun k _ h1 h2 => by omega) (fun k hk => absurd hk (not_R hf (by decide) k)) (fun k hk => absurd hk (not_R hf (by decide) k)) (fun c hc => .inr (by have := partE_inj hc.2.2 hD (by have := hc.2.1; omega); omega)) (fun c hc => absurd hc (not_P hf (by decide) c))
    (fun c h0 h1 h2 => by obtain rfl : c = D := by omega
                          exact ⟨hfn, hen, hD⟩) (fun c _ => h.zl c)
    (.clear hfn (fun k hk => by rw [set3 (by decide)]; exact hd k hk) D hD (Nat.lt_succ_self D) hen (by rw [← hx', hz]; rfl))
  have := countP_set (p := isZ) (x' := x') hj
  rw [isZ_no hf (by decide), isZ_yes hfn] at this
  simp at this
  omega
theorem SI.clear_end (h : SI n T w nR ws os ms xs sts wds mv C D Q A Z) (hj : xs[j]? = some x) (hf : x.fn = fnZ) (he : x.at_ = x.end_) : ∃ E : Nat, sts[2]? = some (E : Int) ∧
    SI n T w nR ws os ms (xs.set j { x with fn := fnP }) (sts.set 2 (E + 1)) wds mv C D Q A Z := by
  have hsl := h.sl
  obtain ⟨hd, c, hc, hD, he2, ha2⟩ := (h.wk j x hj).clear_inv hf
  obtain ⟨E, e1, e2⟩ := h.s2
  have hOn : OnP T (szL (lvs ms os)) x c := ⟨hf, he2, hc⟩
  refine ⟨E, e1, ?_⟩
  generalize hx' : ({ x with fn := fnP } : WX) = x'
  have hfn : x'.fn = fnP := by rw [← hx']
  refine h.upd hj x' (by rw [← hx']) (by simp [hsl]) (by rw [List.getElem?_set_ne (by decide)]; exact h.s0) (by rw [List.getElem?_set_ne (by decide)]; exact h.s1) ⟨E + 1, by rw [List.getElem?_set, if_pos rfl, if_pos (by omega)]; rfl, ?_⟩ (Nat.le_refl _) (Nat.le_refl _)
    (fun r h1 => by rw [set3 (by decide)]; exact h1) (fun k hk _ => by rw [set3 (by decide)]; exact h.d01 k hk) (fun k => .inr ⟨set3 (by decide), rfl, rfl⟩) (fun c => .inr rfl) h.wl h.wv h.mq (fun k hk => absurd hk (not_R hfn (by decide) k)) (fun k hk => absurd hk (not_R hf (by decide) k))
    (fun k _ h1 h2 => by omega) (fun k hk => absurd hk (not_R hf (by decide) k)) (fun k hk => absurd hk (not_R hf (by decide) k)) (fun c hc => absurd hc (not_P hfn (by decide) c)) (fun c' hc' => .inr ?_) (fun c h0 h1 h2 => by omega) (fun c _ => h.zl c)
    (.part hfn fun k hk => by rw [set3 (by decide)]; exact hd k hk)
  · have := countP_set (p := isZ) (x' := x') hj
    rw [isZ_yes hf, isZ_no hfn (by decide)] at this
    simp at this
    omega
  · obtain rfl := hc'.inj hOn
    unfold partL
    omega
theorem SI.clear_next (htn : T ≤ n) (h : SI n T w nR ws os ms xs sts wds mv C D Q A Z) (hj : xs[j]? = some x) (hf : x.fn = fnZ) (he : x.at_ ≠ x.end_) : ∃ (a : Nat) (Z' : Nat → Nat), x.at_ = a ∧ a < n ∧
    SI n T w nR ws os ms (xs.set j { x with at_ := (a : Int) + 1 }) sts (wds.set a 0) mv C D Q A Z' := by
  have hsl := h.sl
  obtain ⟨hd, c, hc, hD, he2, ha2⟩ := (h.wk j x hj).clear_inv hf
  obtain ⟨E, e1, e2⟩ := h.s2
  have hOn : OnP T (szL (lvs ms os)) x c := ⟨hf, he2, hc⟩
  have hzl := h.zl c
  have hlt : szL (lvs ms os) + c * 16 + Z c < partE T (szL (lvs ms os)) c := by
    unfold partL at hzl
    have : szL (lvs ms os) + c * 16 ≤ partE T (szL (lvs ms os)) c := by
      unfold partE
      unfold partsI at hc
      omega
    omega
  have hT : partE T (szL (lvs ms os)) c ≤ T := by unfold partE; omega
  have hwl := h.wl
  refine ⟨szL (lvs ms os) + c * 16 + Z c, updN Z c (Z c + 1), ha2, by omega, ?_⟩
  generalize hx' : ({ x with at_ := ((szL (lvs ms os) + c * 16 + Z c : Nat) : Int) + 1 } : WX) = x'
  have hfn : x'.fn = fnZ := by rw [← hx']; exact hf
  have hen : x'.end_ = x.end_ := by rw [← hx']
  have hiff : ∀ c', OnP T (szL (lvs ms os)) x' c' ↔ OnP T (szL (lvs ms os)) x c' := fun c' => by
    unfold OnP
    rw [hfn, hf, hen]
  refine h.upd hj x' (by rw [← hx']) hsl h.s0 h.s1 ⟨E, e1, ?_⟩ (Nat.le_refl _) (Nat.le_refl _)
    (fun r h1 => h1) (fun k hk _ => h.d01 k hk) (fun k => .inr ⟨rfl, rfl, rfl⟩) (fun c' => ?_) (by rw [List.length_set]; exact hwl) (wv_step h.wv (fun y => ?_) (by omega) (NWI_zero (by omega) (by omega))) h.mq (fun k hk => absurd hk (not_R hfn (by decide) k)) (fun k hk => absurd hk (not_R hf (by decide) k))
    (fun k _ h1 h2 => by omega) (fun k hk => absurd hk (not_R hf (by decide) k)) (fun k hk => absurd hk (not_R hf (by decide) k)) (fun c' hc' => .inl ((hiff c').1 hc')) (fun c' hc' => .inl ((hiff c').2 hc')) (fun c h0 h1 h2 => by omega) (fun c' hc' => ?_)
    (.clear hfn hd c hc hD (by rw [hen]; exact he2) (by rw [← hx', updN_hit]; rfl))
  · have := countP_set (p := isZ) (x' := x') hj
    rw [isZ_yes hf, isZ_yes hfn] at this
    omega
  · by_cases e : c' = c
    · rw [e]; exact .inl hOn
    · exact .inr (updN_ne e)
  · constructor
    · rintro (hr | ⟨c', b1, b2, b3⟩)
      · exact .inl (.inl hr)
      · by_cases e : c' = c
        · subst e
          rw [updN_hit] at b3
          rcases Nat.lt_or_ge y (szL (lvs ms os) + c' * 16 + Z c') with e3 | e3
          · exact .inl (.inr ⟨c', b1, b2, e3⟩)
          · right; omega
        · rw [updN_ne e] at b3
          exact .inl (.inr ⟨c', b1, b2, b3⟩)
    · rintro ((hr | ⟨c', b1, b2, b3⟩) | rfl)
      · exact .inl hr
      · right
        refine ⟨c', b1, b2, ?_⟩
        by_cases e : c' = c
        · subst e; rw [updN_hit]; omega
        · rw [updN_ne e]; exact b3
      · exact .inr ⟨c, hc, by omega, by rw [updN_hit]; omega⟩
  · obtain rfl := hc'.inj hOn
    rw [updN_hit]
    unfold partL
    omega
/-- When it is over all words are what they become, and all that stays is moved. -/
theorem SI.over (hc : Ch ws 0 os T) (hnR : nR = numR w T) (h1w : 1 ≤ w) (h : SI n T w nR ws os ms xs sts wds mv C D Q A Z) (hwl : ws.length = n) (htn : T ≤ n) (ho : OverP sts nR (partsI T (szL (lvs ms os)) : Nat)) : wds = NWI T ws ms os ∧ mv = ((lvs ms os).length : Nat) := by
  obtain ⟨o1, o2⟩ := ho
  have hall : AllD nR sts := fun k hk => by
    rcases h.d01 k hk with e | e
    · exact absurd rfl (o1 k 0 hk e)
    · exact e
  obtain ⟨E, e1, e2⟩ := h.s2
  rw [e1] at o2
  injection o2 with o2
  have hEP : E = partsI T (szL (lvs ms os)) := by omega
  have hcnt : xs.countP isZ = 0 := by omega
  have hDP : partsI T (szL (lvs ms os)) ≤ D := by omega
  have hnoZ : ∀ (i : Nat) (y : WX), xs[i]? = some y → y.fn ≠ fnZ := fun i y hi hf => by
    rw [List.countP_eq_zero] at hcnt
    exact hcnt y (List.mem_of_getElem? hi) (isZ_yes hf)
  have hZ : ∀ c, c < partsI T (szL (lvs ms os)) → Z c = partL T (szL (lvs ms os)) c := fun c hcp => by
    rcases h.zo c hcp (by omega) with e | ⟨i, y, hi, hy⟩
    · exact e
    · exact absurd hy.1 (hnoZ i y hi)
  have hQ : ∀ k, k < nR → Q k = (inR w k (lvs ms os)).length ∧ A k = 0 := fun k hk => h.fu k hk (hall k hk)
  have hfS : fstI w (lvs ms os) nR = szL (lvs ms os) := by
    show szL (befR w nR (lvs ms os)) = _
    rw [hnR, befR_all ms h1w hc]
  have hNl := NWI_len (ms := ms) hc hwl htn
  constructor
  · apply List.ext_getElem?
    intro y
    by_cases hyS : y < szL (lvs ms os)
    · refine (h.wv y).1 (.inl ?_)
      obtain ⟨r, b1, b2, b3⟩ := fst_find (w := w) (lvs ms os) (k := nR) (x := y) (by omega)
      refine ⟨r, b1, b2, ?_⟩
      unfold prI
      rw [(hQ r b1).1, (hQ r b1).2, List.take_length]
      exact b3
    · by_cases hyT : y < T
      · refine (h.wv y).1 (.inr ⟨(y - szL (lvs ms os)) / 16, ?_, by omega, ?_⟩)
        · unfold partsI; omega
        · rw [hZ _ (by unfold partsI; omega)]
          unfold partL partE
          omega
      · rw [NWI_rest hc (by omega)]
        by_cases hw : WrI T w nR (lvs ms os) Q A Z y
        · rw [(h.wv y).1 hw, NWI_rest hc (by omega)]
        · exact (h.wv y).2 hw
  · rw [h.mq]
    congr 1
    have : ∀ m, m ≤ nR → ((List.range m).map Q).sum = (befR w m (lvs ms os)).length := by
      intro m
      induction m with
      | zero => intro _; rw [befR_zero]; rfl
      | succ m ih =>
        intro hm
        rw [List.range_succ, List.map_append, List.sum_append, ih (by omega)]
        simp only [List.map_cons, List.map_nil, List.sum_cons, List.sum_nil]
        rw [(hQ m (by omega)).1]
        rw [befR_len, Nat.add_comm, Nat.add_zero]
    rw [this nR (Nat.le_refl _), hnR, befR_all ms h1w hc]
end step
end Go.Proofs.Ytahfnbpbdnmggaa
/-
  Our own: a sliding: how much is left to do; if nobody gets on it is over.
-/
set_option linter.unusedVariables false
set_option linter.unusedSimpArgs false
namespace Go.Proofs.Ytahfnbpbdnmggaa
open Go.Sep
def wszI (ws : List Int) (i : Int) : Nat := 1 + (unN (ws.getD i.toNat 0)).toNat
def szA (ws : List Int) (l : List Int) : Nat := (l.map (wszI ws)).sum
theorem wsz_obj {ws : List Int} {os : List RO} {T j : Nat} {o : RO} (h : Ch ws 0 os T) (hj : os[j]? = some o) : wszI ws o.i = 1 + o.ws.length := by
  have hat := (h.at hj).2
  obtain ⟨u0, u1, u2, u3, u4⟩ := packI_un hat.2.1
  unfold wszI
  rw [Int.toNat_natCast, List.getD_eq_getElem?_getD, hat.2.2.1, Option.getD_some, u3, Int.toNat_natCast]
theorem szA_ol {ws : List Int} {os : List RO} {ms : List Nat} {T w k q : Nat} (h : Ch ws 0 os T) : szA ws (olI w k q (lvs ms os)) = szL ((inR w k (lvs ms os)).drop q) := by
  unfold szA olI szL
  rw [List.map_map]
  congr 1
  refine List.map_congr_left fun o ho => ?_
  obtain ⟨i, hi⟩ := List.getElem?_of_mem (List.mem_of_mem_drop ho)
  obtain ⟨j, hj, _⟩ := inR_os hi
  exact wsz_obj h hj
def phiW (nR : Nat) (ws : List Int) (x : WX) : Nat :=
  if x.fn = fnC then nR + 5 else if x.fn = fnR then x.wl.length + 3 + x.ol.length + 2 * szA ws x.ol + (nR + 5) else if x.fn = fnO then x.ol.length + 2 * szA ws x.ol + 1 + (nR + 5) else
  if x.fn = fnF then x.ol.length + 2 * szA ws x.ol + 2 * (x.size - x.at_).toNat + 1 + (nR + 5) else if x.fn = fnL then x.ol.length + 2 * szA ws x.ol + 2 * (x.size - x.at_).toNat + (nR + 5) else
  if x.fn = fnA then (nR - x.at_.toNat) + 3 else if x.fn = fnP then 1 else if x.fn = fnZ then (x.end_ - x.at_).toNat + 2 else 0
def cRI (w nR : Nat) (L : List RO) (k : Nat) : Nat := nR + 4 + (inR w k L).length + 2 * lvI w L k
/-- How much is left to do. -/
def PhiI (T w nR : Nat) (ws : List Int) (os : List RO) (ms : List Nat) (xs : List WX) (C D : Nat) : Nat :=
  (((List.range nR).drop C).map (cRI w nR (lvs ms os))).sum + (xs.map (phiW nR ws)).sum + 20 * (partsI T (szL (lvs ms os)) - D)
theorem perm_sum {l l' : List Nat} (h : l.Perm l') : l.sum = l'.sum := by
  induction h with
  | nil => rfl
  | cons x _ ih => rw [List.sum_cons, List.sum_cons, ih]
  | swap x y l => simp only [List.sum_cons]; omega
  | trans _ _ a b => exact a.trans b
theorem sum_set {α : Type} {f : α → Nat} {xs : List α} {j : Nat} {x x' : α} (h : xs[j]? = some x) : ((xs.set j x').map f).sum + f x = (xs.map f).sum + f x' := by
  have h1 := perm_sum ((permM_at h).map f)
  have h2 := perm_sum ((permM_put (r' := x') (List.getElem?_eq_some_iff.1 h).1).map f)
  rw [List.map_cons, List.sum_cons] at h1 h2
  omega
section step
variable {n T w nR : Nat} {ws : List Int} {os : List RO} {ms : List Nat} {xs : List WX} {sts wds : List Int} {mv : Int} {C D C' D' : Nat} {Q A Z : Nat → Nat} {j : Nat} {x : WX}
theorem Phi_lt (hj : xs[j]? = some x) {x' : WX} (h : phiW nR ws x' < phiW nR ws x) : PhiI T w nR ws os ms (xs.set j x') C D < PhiI T w nR ws os ms xs C D := by
  have := sum_set (f := phiW nR ws) (x' := x') hj
  unfold PhiI
  omega
theorem phi_C {x : WX} (h : x.fn = fnC) : phiW nR ws x = nR + 5 := by unfold phiW; rw [if_pos h]
theorem phi_R {x : WX} (h : x.fn = fnR) : phiW nR ws x = x.wl.length + 3 + x.ol.length + 2 * szA ws x.ol + (nR + 5) := by unfold phiW; rw [h]; rfl
theorem phi_O {x : WX} (h : x.fn = fnO) : phiW nR ws x = x.ol.length + 2 * szA ws x.ol + 1 + (nR + 5) := by unfold phiW; rw [h]; rfl
theorem phi_F {x : WX} (h : x.fn = fnF) : phiW nR ws x = x.ol.length + 2 * szA ws x.ol + 2 * (x.size - x.at_).toNat + 1 + (nR + 5) := by unfold phiW; rw [h]; rfl
theorem phi_L {x : WX} (h : x.fn = fnL) : phiW nR ws x = x.ol.length + 2 * szA ws x.ol + 2 * (x.size - x.at_).toNat + (nR + 5) := by unfold phiW; rw [h]; rfl
theorem phi_A {x : WX} (h : x.fn = fnA) : phiW nR ws x = (nR - x.at_.toNat) + 3 := by unfold phiW; rw [h]; rfl
theorem phi_P {x : WX} (h : x.fn = fnP) : phiW nR ws x = 1 := by unfold phiW; rw [h]; rfl
theorem phi_Z {x : WX} (h : x.fn = fnZ) : phiW nR ws x = (x.end_ - x.at_).toNat + 2 := by unfold phiW; rw [h]; rfl
theorem phi_X {x : WX} (h : x.fn = fnX) : phiW nR ws x = 0 := by unfold phiW; rw [h]; rfl
theorem Phi_claim_next (hc : Ch ws 0 os T) (hj : xs[j]? = some x) (hf : x.fn = fnC) (hC : C < nR) {x' : WX} (hf' : x'.fn = fnR) (hl : x'.wl.length ≤ C) (ho : x'.ol = stI w C (lvs ms os)) :
    PhiI T w nR ws os ms (xs.set j x') (C + 1) D < PhiI T w nR ws os ms xs C D := by
  have h1 := sum_set (f := phiW nR ws) (x' := x') hj
  rw [phi_C hf, phi_R hf'] at h1
  have h2 : (List.range nR).drop C = C :: (List.range nR).drop (C + 1) := by
    rw [List.drop_eq_getElem_cons (by rw [List.length_range]; exact hC), List.getElem_range]
  have h3 : szA ws x'.ol = lvI w (lvs ms os) C := by
    rw [ho]
    show szA ws (olI w C 0 (lvs ms os)) = _
    rw [szA_ol hc]; rfl
  have h4 : x'.ol.length = (inR w C (lvs ms os)).length := by rw [ho]; unfold stI; rw [List.length_map]
  unfold PhiI
  rw [h2, List.map_cons, List.sum_cons]
  unfold cRI
  omega
theorem Phi_claim_end (hj : xs[j]? = some x) (hf : x.fn = fnC) (hC : nR ≤ C) {x' : WX} (hf' : x'.fn = fnA) (ha : x'.at_ = 0) : PhiI T w nR ws os ms (xs.set j x') (C + 1) D < PhiI T w nR ws os ms xs C D := by
  have h1 := sum_set (f := phiW nR ws) (x' := x') hj
  rw [phi_C hf, phi_A hf', ha] at h1
  unfold PhiI
  rw [List.drop_eq_nil_of_le (by rw [List.length_range]; omega), List.drop_eq_nil_of_le (by rw [List.length_range]; omega)]
  simp only [List.map_nil, List.sum_nil, Int.toNat_zero] at h1 ⊢
  omega
theorem Phi_part (hj : xs[j]? = some x) (hf : x.fn = fnP) (hD : D < partsI T (szL (lvs ms os))) {x' : WX} (hf' : x'.fn = fnZ) (ha : x'.at_ = (szL (lvs ms os) + D * 16 : Nat)) (he : x'.end_ = (partE T (szL (lvs ms os)) D : Nat)) : PhiI T w nR ws os ms (xs.set j x') C (D + 1) < PhiI T w nR ws os ms xs C D := by
  have h1 := sum_set (f := phiW nR ws) (x' := x') hj
  rw [phi_P hf, phi_Z hf', ha, he] at h1
  have h2 : ((partE T (szL (lvs ms os)) D : Nat) : Int) - ((szL (lvs ms os) + D * 16 : Nat) : Int) ≤ 16 := by unfold partE; omega
  unfold PhiI
  omega
theorem Phi_part_none (hj : xs[j]? = some x) (hf : x.fn = fnP) {x' : WX} (hf' : x'.fn = fnX) : PhiI T w nR ws os ms (xs.set j x') C (D + 1) < PhiI T w nR ws os ms xs C D := by
  have h1 := sum_set (f := phiW nR ws) (x' := x') hj
  rw [phi_P hf, phi_X hf'] at h1
  unfold PhiI
  omega
/-- A worker whose step changes nothing. -/
def Stk (nR : Nat) (sts : List Int) (x : WX) : Prop := (x.fn = fnR ∧ ∃ (r : Nat) (rest : List Int), x.wl = (r : Int) :: rest ∧ sts[3 + r]? = some 0) ∨ (x.fn = fnA ∧ ∃ a : Nat, x.at_ = a ∧ a < nR ∧ sts[3 + a]? = some 0) ∨ x.fn = fnX
theorem SI.stuck (h : SI n T w nR ws os ms xs sts wds mv C D Q A Z) (h1 : 1 ≤ xs.length) (hs : ∀ (j : Nat) (x : WX), xs[j]? = some x → Stk nR sts x) : OverP sts nR (partsI T (szL (lvs ms os)) : Nat) := by
  have hno : ∀ (m k : Nat), k < m → ∀ (j : Nat) (x : WX), xs[j]? = some x → ¬ OnR x k := by
    intro m
    induction m with
    | zero => intro k hk; exact absurd hk (Nat.not_lt_zero _)
    | succ m ih =>
      intro k hk j x hj hon
      have hw := h.wk j x hj
      obtain ⟨o1, o2, o3⟩ := hw.onR hon
      rcases hs j x hj with ⟨hf, r, rest, hl, hr⟩ | ⟨hf, _⟩ | hf
      · obtain ⟨k', hr', hk', hC', h0', ho', hl', hb'⟩ := hw.ready_inv hf
        obtain rfl : k' = k := by have := hon.2; omega
        obtain ⟨r', e, hlt⟩ := hb' r (by rw [hl]; exact .head _)
        obtain rfl : r' = r := by omega
        obtain ⟨i, y, hi, hy⟩ := h.ow r' (by omega) (by omega) hr
        exact ih r' (by omega) i y hi hy
      · exact not_R hf (by decide) k hon
      · exact not_R hf (by decide) k hon
  have hdone : ∀ k, k < nR → k < C → sts[3 + k]? = some 1 := fun k hk hkC => by
    rcases h.d01 k hk with e | e
    · obtain ⟨i, y, hi, hy⟩ := h.ow k hk hkC e
      exact absurd hy (hno (k + 1) k (Nat.lt_succ_self k) i y hi)
    · exact e
  have hX : ∀ (j : Nat) (x : WX), xs[j]? = some x → x.fn = fnX := fun j x hj => by
    rcases hs j x hj with ⟨hf, r, rest, hl, hr⟩ | ⟨hf, a, ha, han, ha0⟩ | hf
    · have hw := h.wk j x hj
      obtain ⟨k', hr', hk', hC', h0', ho', hl', hb'⟩ := hw.ready_inv hf
      exact absurd ⟨.inl hf, hr'⟩ (hno (k' + 1) k' (Nat.lt_succ_self _) j x hj)
    · obtain ⟨hC, _⟩ := (h.wk j x hj).all_inv hf
      have := hdone a han (by omega)
      rw [ha0] at this; injection this with this; exact absurd this (by decide)
    · exact hf
  have hx0 : xs[0]? = some xs[0] := List.getElem?_eq_getElem _
  obtain ⟨hd, hD⟩ := (h.wk 0 _ hx0).rest_inv (hX 0 _ hx0)
  obtain ⟨E, e1, e2⟩ := h.s2
  have hcnt : xs.countP isZ = 0 := by
    rw [List.countP_eq_zero]
    intro y hy
    obtain ⟨i, hi⟩ := List.getElem?_of_mem hy
    rw [isZ_no (hX i y hi) (by decide)]
    decide
  refine ⟨fun k y hk hy => ?_, ?_⟩
  · rw [hd k hk] at hy
    injection hy with hy
    omega
  · rw [e1]
    congr 1
    omega
/-- At the beginning. -/
theorem SI.new (hwl : ws.length = n) (hxs : ∀ (j : Nat) (y : WX), xs[j]? = some y → y = wk0 j y.c) : SI n T w nR ws os ms xs (List.replicate (3 + nR) 0) ws 0 0 0 (fun _ => 0) (fun _ => 0) (fun _ => 0) := by
  have hrep : ∀ i, i < 3 + nR → (List.replicate (3 + nR) (0 : Int))[i]? = some 0 := fun i hi => by rw [List.getElem?_replicate, if_pos hi]
  have hfn : ∀ (j : Nat) (y : WX), xs[j]? = some y → y.fn = fnC := fun j y hy => by rw [hxs j y hy]
  have hnW : ∀ x, ¬ WrI T w nR (lvs ms os) (fun _ => 0) (fun _ => 0) (fun _ => 0) x := by
    rintro y (⟨k, hk, b1, b2⟩ | ⟨c, hc, b1, b2⟩)
    · unfold prI at b2
      dsimp only at b2
      have : szL ((inR w k (lvs ms os)).take 0) = 0 := rfl
      omega
    · dsimp only at b2
      omega
  refine ⟨fun j y hy => by rw [hxs j y hy], by simp, hrep 0 (by omega), hrep 1 (by omega), ⟨0, hrep 2 (by omega), ?_⟩, fun k hk => .inl (hrep _ (by omega)), hwl, fun y => ⟨fun hy => absurd hy (hnW y), fun _ => rfl⟩, ?_, fun k _ => ⟨rfl, rfl, fun hk => hrep _ (by omega)⟩, fun k _ hk => absurd hk (Nat.not_lt_zero _), fun k hk h1 => ?_, fun j j' y y' k hy _ hon => absurd hon (not_R (hfn j y hy) (by decide) k), fun k _ h0 => by omega,
    fun c _ => rfl, fun c _ hc => absurd hc (Nat.not_lt_zero _), fun c => Nat.zero_le _, fun j j' y y' c hy _ hon => absurd hon (not_P (hfn j y hy) (by decide) c), fun c h0 => absurd h0 (Nat.not_lt_zero _), fun j y hy => .claim (hfn j y hy)⟩
  · have : xs.countP isZ = 0 := by
      rw [List.countP_eq_zero]
      intro y hy
      obtain ⟨i, hi⟩ := List.getElem?_of_mem hy
      rw [isZ_no (hfn i y hi) (by decide)]
      decide
    rw [this]
    omega
  · have : ∀ m : Nat, ((List.range m).map fun _ => 0).sum = 0 := fun m => by
      induction m with
      | zero => rfl
      | succ m ih => rw [List.range_succ, List.map_append, List.sum_append, ih]; rfl
    rw [this]; rfl
  · rw [hrep _ (by omega)] at h1
    injection h1 with h1
    exact absurd h1 (by decide)
end step
end Go.Proofs.Ytahfnbpbdnmggaa
/-
  Our own: a sliding: how many objects are moved at most; the measure holds the claims.
-/
set_option linter.unusedVariables false
set_option linter.unusedSimpArgs false
namespace Go.Proofs.Ytahfnbpbdnmggaa
open Go.Sep
section step
variable {n T w nR : Nat} {ws : List Int} {os : List RO} {ms : List Nat} {xs : List WX} {sts wds : List Int} {mv : Int} {C D : Nat} {Q A Z : Nat → Nat} {j : Nat} {x : WX}
theorem SI.q_le (h : SI n T w nR ws os ms xs sts wds mv C D Q A Z) {r : Nat} (hr : r < nR) : Q r ≤ (inR w r (lvs ms os)).length := by
  rcases Nat.lt_or_ge r C with e | e
  · rcases h.d01 r hr with h0 | h1
    · obtain ⟨i, y, hi, hy⟩ := h.ow r hr e h0
      have hw := h.wk i y hi
      have key : ∀ (o : RO) (j : Nat), Cur ws os ms w r (Q r) (A r) y o j → Q r ≤ (inR w r (lvs ms os)).length := fun o j hc => Nat.le_of_lt (List.getElem?_eq_some_iff.1 hc.hq).1
      rcases hy.1 with hf | hf | hf | hf
      · cases hw with
        | ready _ k hr' hk hC h0 hQ hA ho hl hb hd =>
          obtain rfl : k = r := by have := hy.2; omega
          rw [hQ]
          exact Nat.zero_le _
        | claim h2 => rw [hf] at h2; exact absurd h2 (by decide)
        | object h2 => rw [hf] at h2; exact absurd h2 (by decide)
        | fetch h2 => rw [hf] at h2; exact absurd h2 (by decide)
        | lay h2 => rw [hf] at h2; exact absurd h2 (by decide)
        | all h2 => rw [hf] at h2; exact absurd h2 (by decide)
        | part h2 => rw [hf] at h2; exact absurd h2 (by decide)
        | clear h2 => rw [hf] at h2; exact absurd h2 (by decide)
        | rest h2 => rw [hf] at h2; exact absurd h2 (by decide)
      · obtain ⟨k, hr', hk, hC, h0, hQ, hA, ho, hd⟩ := hw.object_inv hf
        obtain rfl : k = r := by have := hy.2; omega
        exact hQ
      · obtain ⟨k, hr', hk, hC, h0, ho, hd, o, j, hc⟩ := hw.fetch_inv hf
        obtain rfl : k = r := by have := hy.2; omega
        exact key o j hc
      · obtain ⟨k, hr', hk, hC, h0, ho, hd, o, j, hc, _⟩ := hw.lay_inv hf
        obtain rfl : k = r := by have := hy.2; omega
        exact key o j hc
    · rw [(h.fu r hr h1).1]
      exact Nat.le_refl _
  · rw [(h.fr r e).1]
    exact Nat.zero_le _
theorem SI.mv_le (hc : Ch ws 0 os T) (hnR : nR = numR w T) (h1w : 1 ≤ w) (h : SI n T w nR ws os ms xs sts wds mv C D Q A Z) : 0 ≤ mv ∧ mv ≤ ((lvs ms os).length : Nat) := by
  have : ∀ m, m ≤ nR → ((List.range m).map Q).sum ≤ (befR w m (lvs ms os)).length := by
    intro m
    induction m with
    | zero => intro _; exact Nat.zero_le _
    | succ m ih =>
      intro hm
      have h1 := ih (by omega)
      have h2 := h.q_le (r := m) (by omega)
      rw [List.range_succ, List.map_append, List.sum_append]
      simp only [List.map_cons, List.map_nil, List.sum_cons, List.sum_nil]
      rw [befR_len]
      omega
  have h2 := this nR (Nat.le_refl _)
  rw [hnR, befR_all ms h1w hc] at h2
  rw [hnR] at h
  rw [h.mq]
  omega
/-- What a worker's step comes to. -/
def StepR (n T w nR : Nat) (ws : List Int) (os : List RO) (ms : List Nat) (xs : List WX) (sts : List Int) (tv : Int) (C D : Nat) (j : Nat) (x x' : WX) (sts' wds' : List Int) (mv' tv' : Int) (C' D' : Nat) : Prop :=
  (∃ Q' A' Z', SI n T w nR ws os ms (xs.set j x') sts' wds' mv' C' D' Q' A' Z') ∧ (tv' = tv ∨ tv' = tv + 1) ∧ C' + D' + PhiI T w nR ws os ms (xs.set j x') C' D' ≤ C + D + PhiI T w nR ws os ms xs C D ∧ x'.c = x.c ∧
    (PhiI T w nR ws os ms (xs.set j x') C' D' < PhiI T w nR ws os ms xs C D ∨ (Stk nR sts x ∧ x' = x ∧ sts' = sts ∧ C' = C ∧ D' = D))
theorem StepR.lt {x' : WX} {sts' wds' : List Int} {mv' tv tv' : Int} {C' D' : Nat} {Q' A' Z' : Nat → Nat} (h : SI n T w nR ws os ms (xs.set j x') sts' wds' mv' C' D' Q' A' Z') (ht : tv' = tv ∨ tv' = tv + 1) (hx : x'.c = x.c) (hl : PhiI T w nR ws os ms (xs.set j x') C' D' < PhiI T w nR ws os ms xs C D)
    (hCD : C' + D' ≤ C + D + 1) : StepR n T w nR ws os ms xs sts tv C D j x x' sts' wds' mv' tv' C' D' := ⟨⟨_, _, _, h⟩, ht, by omega, hx, .inl hl⟩
theorem StepR.stay (hj : xs[j]? = some x) {wds' : List Int} {mv' tv tv' : Int} {Q' A' Z' : Nat → Nat} (h : SI n T w nR ws os ms xs sts wds' mv' C D Q' A' Z') (ht : tv' = tv ∨ tv' = tv + 1) (hs : Stk nR sts x) : StepR n T w nR ws os ms xs sts tv C D j x x sts wds' mv' tv' C D := by
  have e : xs.set j x = xs := by
    obtain ⟨h1, h2⟩ := List.getElem?_eq_some_iff.1 hj
    rw [← h2]; exact List.set_getElem_self h1
  unfold StepR
  rw [e]
  exact ⟨⟨_, _, _, h⟩, ht, Nat.le_refl _, rfl, .inr ⟨hs, rfl, rfl, rfl, rfl⟩⟩
end step
end Go.Proofs.Ytahfnbpbdnmggaa
/-
  Our own: the slider's worker: claim.
-/
set_option linter.unusedVariables false
set_option linter.unusedSimpArgs false
namespace Go.Proofs.Ytahfnbpbdnmggaa
open Go.Sep
section ops
variable {ps pf p bw bs pm bm bst bf n T w nR pw pz bz nW wc : Nat} {wa : Option Addr} {pv mv tv : Int} {x : WX} {ws : List Int} {st : List Bool} {os : List RO} {ms : List Nat} {rs : List RG} {fs sts : List Int}
/-- What a worker's step uses, beside its own. -/
abbrev shL (ps pf p bw bs pm bm bst bf n T w nR pw pz bz nW wc : Nat) (wa : Option Addr) (pv mv tv : Int) (ws : List Int) (st : List Bool) (ms : List Nat) (rs : List RG) (fs sts : List Int) : List HP :=
  sdB ps pf p pw pz wa nW wc pv mv tv :: cellsZ pz bz sts :: fwdL pf p bw bs pm bm bst bf n T w nR ws st ms rs fs
set_option maxHeartbeats 16000000 in
theorem Claim_spec (h : HT n T ws st) (hc : Ch ws 0 os T) (hF : RF w nR (lvs ms os) rs fs) (C : Nat) (h1 : 0 ≤ x.who) (h2 : x.who < 64) (hC : sts[0]? = some (C : Int)) (hC2 : C ≤ 1000000000) (hs : sts.length ≤ 65536) (ht : In64 (tv + 1)) :
    Does Try.prog 44 [ptr x.c 0] (wkL ps x ++ shL ps pf p bw bs pm bm bst bf n T w nR pw pz bz nW wc wa pv mv tv ws st ms rs fs sts)
    (fun v l => ∃ x' : WX, ((nR ≤ C ∧ x' = { x with region := C, at_ := 0, fn := 70 }) ∨ (C < nR ∧ ∃ wa' wc' oa' oc', x' = { x with region := C, fn := 69, wa := wa', wl := ahL w (lvs ms os) C C, wc := wc', oa := oa', ol := stI w C (lvs ms os), oc := oc' })) ∧
      v = .tuple #[] ∧ l = wkL ps x' ++ shL ps pf p bw bs pm bm bst bf n T w nR pw pz bz nW wc wa pv mv (tv + 1) ws st ms rs fs (sts.set 0 (C + 1))) := by
  have hnR := hF.nb
  refine Does.of tiok Try.func44 (by kernel_rfl) rfl Try.ntmps44 rfl ?_
  intro W fr
  repeat' (first | (refine IsO ?_; first | refine JO_nil ?_ | (refine IsStore ?_; refine S1 rfl rfl rfl rfl rfl rfl rfl (fun _ => ?_)) | refine V1 rfl rfl rfl ?_) | (refine IsAt ?_; (with_reducible first | refine T1 ?_ | refine T2 ?_)) | (refine IsJ ?_; first | refine J_seq ?_ | refine J_region ?_ | refine J_skip ?_ | refine J_ret ?_ | (refine IsCond ?_; first | refine K1 rfl ?_ | refine K2 rfl ?_)))
  refine JO_l (OL_call [0, 2, 2] rfl rfl rfl (wAdd (bz := bz) 0 h1 h2 hC hs (by constructor <;> omega) ht) rfl) rfl rfl ?_
  rintro _ _ ⟨_, ⟨rfl, rfl⟩, rfl⟩
  repeat' (first | (refine IsO ?_; first | refine JO_nil ?_ | (refine IsStore ?_; refine S1 rfl rfl rfl rfl rfl rfl rfl (fun _ => ?_)) | refine V1 rfl rfl rfl ?_) | (refine IsAt ?_; (with_reducible first | refine T1 ?_ | refine T2 ?_)) | (refine IsJ ?_; first | refine J_seq ?_ | refine J_region ?_ | refine J_skip ?_ | refine J_ret ?_ | (refine IsCond ?_; first | refine K1 rfl ?_ | refine K2 rfl ?_)))
  refine J_drawk [blk x.c [ptr ps 0, .int .i64 x.who, .func (.func 69) #[] #[], .int .i64 C, .slice x.wa x.wl.length x.wc, .slice x.oa x.ol.length x.oc, .int .i64 x.from_, .int .i64 x.to, .int .i64 x.size, .int .i64 x.refs, .int .i64 x.at_, .int .i64 x.word, .int .i64 x.end_] 110, sdB ps pf p pw pz wa nW wc pv mv (tv + 1), blk pf (fwdV p pm w bst bf nR) 106] (fun H hl => hl.pick (is := [0, 0, 3]) rfl) [0, 0, 0, 5, 0, 0, 0, 5, 0, 0, 5, 0, 0, 5, 2, 0] (List.range 16) (by kernel_rfl) (by kernel_rfl) ?_
  repeat' (refine IsX ?_; first | (refine JX_nil ?_; refine At_np ?_) | (refine JX_op rfl ?_; refine XsO ?_; first | (refine XsLoad ?_; first | refine XL1k rfl rfl rfl rfl rfl ?_ | refine XL2k rfl rfl rfl rfl rfl rfl ?_) | refine XV1 rfl rfl rfl rfl ?_))
  refine JX_lk rfl rfl (OL_call [] rfl rfl rfl (RegLen_spec (w := w) (bst := bst) (bf := bf) (nR := nR)) rfl) rfl rfl ?_ ?_
  · rintro _ _ ⟨_, ⟨rfl, rfl⟩, rfl⟩ H hl
    exact hl.pick (is := [0, 0, 3]) rfl
  rintro _ _ ⟨_, ⟨rfl, rfl⟩, rfl⟩ _
  repeat' (refine IsX ?_; first | (refine JX_nil ?_; refine At_np ?_) | (refine JX_op rfl ?_; refine XsO ?_; first | (refine XsLoad ?_; first | refine XL1k rfl rfl rfl rfl rfl ?_ | refine XL2k rfl rfl rfl rfl rfl rfl ?_) | refine XV1 rfl rfl rfl rfl ?_))
  by_cases hCR : C < nR
  · repeat' (first | (refine IsO ?_; first | refine JO_nil ?_ | (refine IsStore ?_; refine S1 rfl rfl rfl rfl rfl rfl rfl (fun _ => ?_)) | refine V1 rfl rfl rfl ?_) | (refine IsAt ?_; (with_reducible first | refine T1 ?_ | refine T2 ?_)) | (refine IsJ ?_; first | refine J_seq ?_ | refine J_region ?_ | refine J_skip ?_ | refine J_ret ?_ | (refine IsCond ?_; first | refine K1 rfl ?_ | refine K2 rfl ?_)))
    obtain ⟨r, hr⟩ : ∃ r, rs[C]? = some r := ⟨rs[C]'(by rw [hF.rl]; exact hCR), List.getElem?_eq_getElem _⟩
    have hrc := hF.rc C r hr
    have hcl := hF.clen hr
    refine J_plan [blk x.c [ptr ps 0, .int .i64 x.who, .func (.func 69) #[] #[], .int .i64 C, .slice x.wa x.wl.length x.wc, .slice x.oa x.ol.length x.oc, .int .i64 x.from_, .int .i64 x.to, .int .i64 x.size, .int .i64 x.refs, .int .i64 x.at_, .int .i64 x.word, .int .i64 x.end_] 110, sdB ps pf p pw pz wa nW wc pv mv (tv + 1), blk pf (fwdV p pm w bst bf nR) 106] (fun H hl => hl.pick (is := [0, 0, 3]) rfl) [0, 0, 0, 0, 0, 5, 0, 0, 0, 5, 2, 0, 0, 0, 5, 0, 0, 5, 0, 0, 5, 0, 0, 0, 5, 2, 0, 0, 6, 0, 0, 6] (.q 0 (.q 1 (.q 2 (.q 3 (.q 4 (.q 5 (.q 6 (.q 7 (.q 8 (.q 9 (.q 11 (.q 12 (.q 13 (.q 14 (.q 15 (.q 16 (.q 17 (.q 18 (.q 19 (.q 20 (.q 21 (.q 22 (.q 23 (.q 24 (.l1 10 (.l1 25 (.q 26 (.q 27 (.l1 28 (.q 29 (.q 30 (.l1 31 .fin)))))))))))))))))))))))))))))))) (by kernel_rfl) (by kernel_rfl) ?_
    repeat' (refine IsF ?_; first | (refine JF_fin ?_; refine At_np ?_) | (refine JF_op rfl ?_; refine FsO ?_; first | (refine FsLoad ?_; first | refine FL1k rfl rfl rfl rfl rfl ?_ | refine FL2k rfl rfl rfl rfl rfl rfl ?_) | refine FV1 rfl rfl rfl ?_))
    refine JF_l1 (JFO_l rfl (OL_call [1, 4, 4, 4, 4, 4, 4, 4, 4, 4] rfl rfl rfl (Ahead_spec h hc hF C hCR) rfl) rfl rfl (.inr ?_) ?_)
    · rintro _ _ ⟨_, ⟨_, _, rfl, rfl⟩, rfl⟩ H hl
      exact hl.pick (is := [11, 1, 1]) rfl
    rintro _ _ ⟨_, ⟨a1, cap1, rfl, rfl⟩, rfl⟩ _
    refine JF_l1 (JFO_l rfl (OL_call [8, 8] rfl rfl rfl (RegStays_spec (w := w) (bf := bf) (bst := bst) (nR := nR) C hr hF.rl hF.nb hcl) rfl) rfl rfl (.inr ?_) ?_)
    · rintro _ _ ⟨_, ⟨_, _, _, rfl, rfl⟩, rfl⟩ H hl
      exact hl.pick (is := [12, 4, 4]) rfl
    rintro _ _ ⟨_, ⟨a2, cap2, hn2, rfl, rfl⟩, rfl⟩ _
    repeat' (refine IsF ?_; first | (refine JF_fin ?_; refine At_np ?_) | (refine JF_op rfl ?_; refine FsO ?_; first | (refine FsLoad ?_; first | refine FL1k rfl rfl rfl rfl rfl ?_ | refine FL2k rfl rfl rfl rfl rfl rfl ?_) | refine FV1 rfl rfl rfl ?_))
    refine JF_l1 (JFO_l0 rfl (OL_store rfl rfl rfl rfl rfl rfl (i := 12) rfl (by rfl)) rfl (.inl rfl) ?_)
    rintro _ _ rfl _
    repeat' (refine IsF ?_; first | (refine JF_fin ?_; refine At_np ?_) | (refine JF_op rfl ?_; refine FsO ?_; first | (refine FsLoad ?_; first | refine FL1k rfl rfl rfl rfl rfl ?_ | refine FL2k rfl rfl rfl rfl rfl rfl ?_) | refine FV1 rfl rfl rfl ?_))
    refine JF_l1 (JFO_l0 rfl (OL_store rfl rfl rfl rfl rfl rfl (i := 0) rfl (by rfl)) rfl (.inl rfl) ?_)
    rintro _ _ rfl _
    repeat' (refine IsF ?_; first | (refine JF_fin ?_; refine At_np ?_) | (refine JF_op rfl ?_; refine FsO ?_; first | (refine FsLoad ?_; first | refine FL1k rfl rfl rfl rfl rfl ?_ | refine FL2k rfl rfl rfl rfl rfl rfl ?_) | refine FV1 rfl rfl rfl ?_))
    refine At_end' rfl rfl .nil rfl (fun H hl => ?_) ⟨{ x with region := C, fn := 69, wa := a1, wl := ahL w (lvs ms os) C C, wc := cap1, oa := a2, ol := stI w C (lvs ms os), oc := cap2 }, .inr ⟨hCR, a1, cap1, a2, cap2, rfl⟩, rfl, rfl⟩
    rw [hrc] at hl
    exact (rowz_row (hl.pick (l := _) (is := [1, 0, 0, 0, 0, 0, 0, 0, 0, 0, 0, 0, 0, 0]) rfl)).pick (is := [1, 3, 0, 2, 9, 2, 2, 2, 2, 2, 2, 0, 0, 0]) rfl
  · repeat' (first | (refine IsO ?_; first | refine JO_nil ?_ | (refine IsStore ?_; refine S1 rfl rfl rfl rfl rfl rfl rfl (fun _ => ?_)) | refine V1 rfl rfl rfl ?_) | (refine IsAt ?_; (with_reducible first | refine T1 ?_ | refine T2 ?_)) | (refine IsJ ?_; first | refine J_seq ?_ | refine J_region ?_ | refine J_skip ?_ | refine J_ret ?_ | (refine IsCond ?_; first | refine K1 rfl ?_ | refine K2 rfl ?_)))
    exact At_end rfl rfl .nil rfl (is := [0, 2, 2, 0, 0, 0, 0, 0, 0, 0, 0, 0, 0, 0]) rfl ⟨_, .inl ⟨by omega, rfl⟩, rfl, rfl⟩
end ops
end Go.Proofs.Ytahfnbpbdnmggaa
/-
  Our own: the slider's worker: object.
-/
set_option linter.unusedVariables false
set_option linter.unusedSimpArgs false
namespace Go.Proofs.Ytahfnbpbdnmggaa
open Go.Sep
section raw
variable {ps pf p bw bs pm bm bst bf n T w nR pw pz bz nW wc : Nat} {wa : Option Addr} {pv mv tv : Int} {ws : List Int} {st : List Bool} {os : List RO} {ms : List Nat} {rs : List RG} {fs sts : List Int}
  {c : Nat} {who : Int} {fn : FuncId} {region : Int} {wv ov : Value} {from_ to size refs at_ word end_ : Int}
set_option maxHeartbeats 8000000 in
/-- No object is left: the region is done. -/
theorem Object_end0 (k : Nat) (oa : Option Addr) (oc : Nat) (h1 : 0 ≤ who) (h2 : who < 64) (hr : region = k) (hk : 3 + k < sts.length) (hs : sts.length ≤ 65536) (ht : In64 (tv + 1)) :
    Does Try.prog 85 [ptr c 0] [wkR ps c who fn region wv (.slice oa 0 oc) from_ to size refs at_ word end_, sdB ps pf p pw pz wa nW wc pv mv tv, cellsZ pz bz sts]
    (fun v l => v = .tuple #[] ∧ l = [wkR ps c who 44 region wv (.slice oa 0 oc) from_ to size refs at_ word end_, sdB ps pf p pw pz wa nW wc pv mv (tv + 1), cellsZ pz bz (sts.set (3 + k) 1)]) := by
  subst hr
  obtain ⟨t1, t2⟩ := ht
  refine Does.of tiok Try.func85 (by kernel_rfl) rfl Try.ntmps85 rfl ?_
  intro W fr
  repeat' (first | (refine IsO ?_; first | refine JO_nil ?_ | (refine IsBin ?_; refine B1 rfl rfl rfl rfl ?_) | (refine IsLoad ?_; refine L1 rfl rfl rfl rfl ?_) | (refine IsStore ?_; refine S1 rfl rfl rfl rfl rfl rfl rfl (fun _ => ?_)) | refine V1 rfl rfl rfl ?_) | (refine IsAt ?_; (with_reducible first | refine T1 ?_ | refine T2 ?_)) | (refine IsJ ?_; first | refine J_seq ?_ | refine J_region ?_ | refine J_ret ?_ | (refine IsCond ?_; refine J_cond_t rfl ?_)))
  refine J_draw [0, 0, 0, 1, 0, 0, 1, 0, 0, 0, 1, 0, 0, 0, 1, 0, 2] (List.range 17) (by kernel_rfl) (by kernel_rfl) ?_
  repeat' (refine IsX ?_; first | (refine JX_nil ?_; refine At_np ?_) | (refine JX_op rfl ?_; refine XsO ?_; first | (refine XsBin ?_; refine XB1 rfl rfl rfl rfl rfl ?_) | (refine XsLoad ?_; refine XL1 rfl rfl rfl rfl rfl ?_) | refine XV1 rfl rfl rfl rfl ?_))
  rw [show (3 : Int) + (k : Int) = ((3 + k : Nat) : Int) by omega]
  refine JX_l rfl rfl (OL_call [2] rfl rfl rfl (Store_z (p := pz) (bw := bz) (ws := sts) who 1 (3 + k) h1 h2 hk hs) rfl) rfl rfl ?_
  rintro _ _ ⟨_, ⟨rfl, rfl⟩, rfl⟩
  repeat' (refine IsX ?_; first | (refine JX_nil ?_; refine At_np ?_) | (refine JX_op rfl ?_; refine XsO ?_; first | (refine XsBin ?_; refine XB1 rfl rfl rfl rfl rfl ?_) | (refine XsLoad ?_; refine XL1 rfl rfl rfl rfl rfl ?_) | refine XV1 rfl rfl rfl rfl ?_))
  repeat' (first | (refine IsO ?_; first | refine JO_nil ?_ | (refine IsBin ?_; refine B1 rfl rfl rfl rfl ?_) | (refine IsLoad ?_; refine L1 rfl rfl rfl rfl ?_) | (refine IsStore ?_; refine S1 rfl rfl rfl rfl rfl rfl rfl (fun _ => ?_)) | refine V1 rfl rfl rfl ?_) | (refine IsAt ?_; (with_reducible first | refine T1 ?_ | refine T2 ?_)) | (refine IsJ ?_; first | refine J_seq ?_ | refine J_region ?_ | refine J_ret ?_ | (refine IsCond ?_; refine J_cond_t rfl ?_)))
  exact At_ret rfl rfl .nil rfl (is := [0, 0, 0]) rfl ⟨rfl, rfl⟩
set_option maxHeartbeats 16000000 in
/-- The next object. -/
theorem Object_next0 (h : HT n T ws st) (hc : Ch ws 0 os T) (hM : MI n ms) (hF : RF w nR (lvs ms os) rs fs) (hR : nR = numR w T) {j : Nat} {o : RO} (hj : os[j]? = some o) (hl : lvB ms o = true) {rest : List Int} (oa : Option Addr) (oc : Nat) (hrl : rest.length ≤ 65536) :
    Does Try.prog 85 [ptr c 0] (wkR ps c who fn region wv (.slice oa (rest.length + 1) oc) from_ to size refs at_ word end_ :: rowz 3 1 oa (rest.length + 1) oc (.int .i64 (o.i : Int) :: intsV rest) :: sdB ps pf p pw pz wa nW wc pv mv tv :: fwdL pf p bw bs pm bm bst bf n T w nR ws st ms rs fs)
    (fun v l => ∃ (oa' : Option Addr) (oc' : Nat), v = .tuple #[] ∧ l = wkR ps c who 94 region wv (.slice oa' rest.length oc') o.i (goI ms os j : Nat) (1 + (o.ws.length : Int)) o.p 0 word end_ :: rowz 3 1 oa' rest.length oc' (intsV rest) :: sdB ps pf p pw pz wa nW wc pv mv tv :: fwdL pf p bw bs pm bm bst bf n T w nR ws st ms rs fs) := by
  have hol := hc.o_lt hj
  have htn := h.tn
  have hnb := h.nb
  have hgl := goI_le ms hc hj
  refine Does.of tiok Try.func85 (by kernel_rfl) rfl Try.ntmps85 rfl ?_
  intro W fr
  refine J_rowzf (i := 1) rfl ?_
  rintro ⟨hcl, hnn, hcc⟩
  have hRd : Reads (rowz 3 1 oa (rest.length + 1) oc (.int .i64 (o.i : Int) :: intsV rest)) 1 (rest.length + 1) oa oc (.int .i64 (o.i : Int) :: intsV rest) := Reads.rowz hcl hnn
  refine J_fact _ (fun w hs => hRd.some (by omega) hs (by simp)) ?_
  rintro ⟨b, of, rfl⟩
  repeat' (first | (refine IsO ?_; first | refine JO_nil ?_ | (refine IsLoad ?_; refine L1 rfl rfl rfl rfl ?_) | (refine IsStore ?_; refine S1 rfl rfl rfl rfl rfl rfl rfl (fun _ => ?_)) | refine V1 rfl rfl rfl ?_) | (refine IsAt ?_; (with_reducible refine T1 ?_)) | (refine IsJ ?_; first | refine J_seq ?_ | refine J_region ?_ | refine J_skip ?_ | (refine IsCond ?_; refine J_cond_f rfl ?_)))
  refine J_plan [wkR ps c who fn region wv (.slice (some ⟨b, of, none⟩) (rest.length + 1) oc) from_ to size refs at_ word end_, rowz 3 1 (some ⟨b, of, none⟩) (rest.length + 1) oc (.int .i64 (o.i : Int) :: intsV rest)] (fun H hl => hl.pick (is := [0, 0]) rfl) [0, 0, 0, 0, 0, 5, 0, 5, 0, 0, 0, 5, 0, 0, 0, 6, 0, 0, 6] (.q 0 (.q 1 (.q 2 (.q 3 (.q 4 (.q 5 (.q 6 (.q 7 (.q 8 (.q 9 (.q 10 (.q 11 (.q 12 (.q 13 (.q 14 (.l1 15 (.q 16 (.q 17 (.l1 18 .fin))))))))))))))))))) (by kernel_rfl) (by kernel_rfl) ?_
  repeat' (refine IsF ?_; first | (refine JF_fin ?_; refine At_np ?_) | (refine JF_op rfl ?_; refine FsO ?_; first | (refine FsLoad ?_; refine FL1k rfl rfl rfl rfl rfl ?_) | refine FV1 rfl rfl rfl ?_))
  refine JF_val rfl (OV_idx (off := of + 0) rfl rfl rfl rfl (by omega) (by omega) (by simp)) rfl rfl ?_
  refine JF_kept rfl rfl (OK_read (i := 0) (v := .int .i64 o.i) hRd (by simp) rfl rfl (by omega) rfl) rfl rfl ?_
  repeat' (refine IsF ?_; first | (refine JF_fin ?_; refine At_np ?_) | (refine JF_op rfl ?_; refine FsO ?_; first | (refine FsLoad ?_; refine FL1k rfl rfl rfl rfl rfl ?_) | refine FV1 rfl rfl rfl ?_))
  refine JF_val rfl (OV_slice (cap := oc) (len := rest.length + 1) (m := 1) (n := ((rest.length + 1 : Nat) : Int)) (p' := if oc = 1 then some ⟨b, of, none⟩ else some ⟨b, of + 1, none⟩) rfl rfl rfl rfl rfl rfl rfl (by omega) (by omega) (by omega) (by simp [addr_add])) rfl rfl ?_
  rw [show (((rest.length + 1 : Nat) : Int)).toNat - (1 : Int).toNat = rest.length by simp, show oc - (1 : Int).toNat = oc - 1 by simp]
  repeat' (refine IsF ?_; first | (refine JF_fin ?_; refine At_np ?_) | (refine JF_op rfl ?_; refine FsO ?_; first | (refine FsLoad ?_; refine FL1k rfl rfl rfl rfl rfl ?_) | refine FV1 rfl rfl rfl ?_))
  refine JF_l1 (JFO_l0 rfl (OL_store rfl rfl rfl rfl rfl rfl (i := 0) rfl (by rfl)) rfl (.inl rfl) ?_)
  rintro _ _ rfl _
  repeat' (refine IsF ?_; first | (refine JF_fin ?_; refine At_np ?_) | (refine JF_op rfl ?_; refine FsO ?_; first | (refine FsLoad ?_; refine FL1k rfl rfl rfl rfl rfl ?_) | refine FV1 rfl rfl rfl ?_))
  refine JF_l1 (JFO_l0 rfl (OL_store rfl rfl rfl rfl rfl rfl (i := 0) rfl (by rfl)) rfl (.inl rfl) ?_)
  rintro _ _ rfl _
  repeat' (refine IsF ?_; first | (refine JF_fin ?_; refine At_np ?_) | (refine JF_op rfl ?_; refine FsO ?_; first | (refine FsLoad ?_; refine FL1k rfl rfl rfl rfl rfl ?_) | refine FV1 rfl rfl rfl ?_))
  refine At_then_normal ?_
  generalize hoa : (if oc = 1 then some (⟨b, of, none⟩ : Addr) else some ⟨b, of + 1, none⟩) = oa'
  refine J_hp (l' := wkR ps c who fn region wv (.slice oa' rest.length (oc - 1)) o.i to size refs at_ word end_ :: rowz 3 1 oa' rest.length (oc - 1) (intsV rest) :: sdB ps pf p pw pz wa nW wc pv mv tv :: fwdL pf p bw bs pm bm bst bf n T w nR ws st ms rs fs) (fun H hl => ?_) ?_
  · have h1 := rowz_tail (hl.pick (l := _) (is := [1, 0, 0, 0, 0, 0, 0, 0, 0, 0, 0, 0]) rfl)
    rw [hoa] at h1
    exact h1.pick (is := [1, 0, 0, 0, 0, 0, 0, 0, 0, 0, 0, 0]) rfl
  repeat' (first | (refine IsO ?_; first | refine JO_nil ?_ | (refine IsLoad ?_; refine L1 rfl rfl rfl rfl ?_) | (refine IsStore ?_; refine S1 rfl rfl rfl rfl rfl rfl rfl (fun _ => ?_)) | refine V1 rfl rfl rfl ?_) | (refine IsAt ?_; (with_reducible refine T1 ?_)) | (refine IsJ ?_; first | refine J_seq ?_ | refine J_region ?_ | refine J_skip ?_ | (refine IsCond ?_; refine J_cond_f rfl ?_)))
  refine J_draw [0, 0, 0, 0, 1, 0, 0, 1, 0, 0, 0, 1, 2, 0, 0, 0, 0, 0, 2] (List.range 19) (by kernel_rfl) (by kernel_rfl) ?_
  repeat' (refine IsX ?_; first | (refine JX_nil ?_; refine At_np ?_) | (refine JX_op rfl ?_; refine XsO ?_; first | (refine XsBin ?_; refine XB1 rfl rfl rfl rfl rfl ?_) | (refine XsLoad ?_; first | refine XL1k rfl rfl rfl rfl rfl ?_ | refine XL1 rfl rfl rfl rfl rfl ?_) | refine XV1 rfl rfl rfl rfl ?_))
  refine JX_l rfl rfl (OL_call [3, 3, 3, 3, 3, 3, 3, 3, 3] rfl rfl rfl (To_yes h hc hM hF hR hj hl) rfl) rfl rfl ?_
  rintro _ _ ⟨_, ⟨rfl, rfl⟩, rfl⟩
  repeat' (refine IsX ?_; first | (refine JX_nil ?_; refine At_np ?_) | (refine JX_op rfl ?_; refine XsO ?_; first | (refine XsBin ?_; refine XB1 rfl rfl rfl rfl rfl ?_) | (refine XsLoad ?_; first | refine XL1k rfl rfl rfl rfl rfl ?_ | refine XL1 rfl rfl rfl rfl rfl ?_) | refine XV1 rfl rfl rfl rfl ?_))
  refine JX_l0 rfl rfl (OL_store rfl rfl rfl rfl rfl rfl (i := 9) rfl (by rfl)) rfl ?_
  rintro _ _ rfl
  repeat' (refine IsX ?_; first | (refine JX_nil ?_; refine At_np ?_) | (refine JX_op rfl ?_; refine XsO ?_; first | (refine XsBin ?_; refine XB1 rfl rfl rfl rfl rfl ?_) | (refine XsLoad ?_; first | refine XL1k rfl rfl rfl rfl rfl ?_ | refine XL1 rfl rfl rfl rfl rfl ?_) | refine XV1 rfl rfl rfl rfl ?_))
  refine At_then_normal ?_
  refine J_hp (l' := wkR ps c who fn region wv (.slice oa' rest.length (oc - 1)) o.i (goI ms os j : Nat) size refs at_ word end_ :: sdB ps pf p pw pz wa nW wc pv mv tv :: rowz 3 1 oa' rest.length (oc - 1) (intsV rest) :: fwdL pf p bw bs pm bm bst bf n T w nR ws st ms rs fs) (fun H hl => hl.pick (is := [0, 10, 9, 0, 0, 0, 0, 0, 0, 0, 0, 0]) rfl) ?_
  repeat' (first | (refine IsO ?_; first | refine JO_nil ?_ | (refine IsLoad ?_; refine L1 rfl rfl rfl rfl ?_) | (refine IsStore ?_; refine S1 rfl rfl rfl rfl rfl rfl rfl (fun _ => ?_)) | refine V1 rfl rfl rfl ?_) | (refine IsAt ?_; (with_reducible refine T1 ?_)) | (refine IsJ ?_; first | refine J_seq ?_ | refine J_region ?_ | refine J_skip ?_ | (refine IsCond ?_; refine J_cond_f rfl ?_)))
  refine J_plan [wkR ps c who fn region wv (.slice oa' rest.length (oc - 1)) o.i (goI ms os j : Nat) size refs at_ word end_, sdB ps pf p pw pz wa nW wc pv mv tv] (fun H hl => hl.pick (is := [0, 0]) rfl) [0, 0, 0, 5, 0, 0, 5, 0, 0, 0, 5, 2, 0, 0, 0, 2, 6, 0] (.q 0 (.q 1 (.q 2 (.q 3 (.q 4 (.q 5 (.q 6 (.q 7 (.q 8 (.q 9 (.q 10 (.l2 11 (.q 12 (.q 13 (.q 14 (.l1 15 (.l1 16 (.q 17 .fin)))))) 15 (.l1 11 (.q 12 (.q 13 (.q 14 (.l1 16 (.q 17 .fin)))))))))))))))))) (by kernel_rfl) (by kernel_rfl) ?_
  repeat' (refine IsF ?_; first | (refine JF_fin ?_; refine At_np ?_) | (refine JF_op rfl ?_; refine FsO ?_; first | (refine FsLoad ?_; refine FL1k rfl rfl rfl rfl rfl ?_) | refine FV1 rfl rfl rfl ?_))
  refine JF_cut (α := Nat) (.l1 16 (.q 17 .fin)) (fun b2 => [(0, ptr c 0), (2, ptr b2 0), (88, headV o.k o.ws.length o.p), (89, .int .i64 0)]) (fun b2 => blk b2 [.int .i64 0, .int .i64 0, .int .i64 0] 45 :: wkR ps c who fn region wv (.slice oa' rest.length (oc - 1)) o.i (goI ms os j : Nat) size refs at_ word end_ :: sdB ps pf p pw pz wa nW wc pv mv tv :: rowz 3 1 oa' rest.length (oc - 1) (intsV rest) :: fwdL pf p bw bs pm bm bst bf n T w nR ws st ms rs fs) ?_ ?_
  · intro hz
    refine JF_l2 ?_ ?_
    · refine JFO_l rfl (OL_call [4, 4, 4] rfl rfl rfl (HeadO_ok h hc hj) rfl) rfl rfl (.inr ?_) ?_
      · rintro _ _ ⟨_, ⟨rfl, rfl⟩, rfl⟩ H hl
        exact hl.pick (is := [3, 3]) rfl
      rintro _ _ ⟨_, ⟨rfl, rfl⟩, rfl⟩ _
      repeat' (refine IsF ?_; first | (refine JF_fin ?_; refine At_np ?_) | (refine JF_op rfl ?_; refine FsO ?_; first | (refine FsLoad ?_; refine FL1k rfl rfl rfl rfl rfl ?_) | refine FV1 rfl rfl rfl ?_))
      refine JF_l1 (JFO_l rfl (OL_alloc rfl rfl) rfl rfl (.inr ?_) ?_)
      · rintro _ _ ⟨_, rfl, rfl⟩ H hl
        exact hl.pick (is := [4, 4]) rfl
      rintro _ _ ⟨b2, rfl, rfl⟩ _
      exact JF_to (by repeat (first | exact True.intro | refine And.intro rfl ?_)) (fun H hl => hl.pick (is := [0, 3, 3, 3, 3, 0, 0, 0, 0, 0, 0, 0, 0]) rfl) (fun H hl => hl.pick (is := [1, 1]) rfl) (hz b2)
    · refine JFO_l rfl (OL_alloc rfl rfl) rfl rfl (.inr ?_) ?_
      · rintro _ _ ⟨_, rfl, rfl⟩ H hl
        exact hl.pick (is := [1, 1]) rfl
      rintro _ _ ⟨b2, rfl, rfl⟩ _
      refine JF_l1 (JFO_l rfl (OL_call [5, 5, 5] rfl rfl rfl (HeadO_ok h hc hj) rfl) rfl rfl (.inr ?_) ?_)
      · rintro _ _ ⟨_, ⟨rfl, rfl⟩, rfl⟩ H hl
        exact hl.pick (is := [4, 4]) rfl
      rintro _ _ ⟨_, ⟨rfl, rfl⟩, rfl⟩ _
      repeat' (refine IsF ?_; first | (refine JF_fin ?_; refine At_np ?_) | (refine JF_op rfl ?_; refine FsO ?_; first | (refine FsLoad ?_; refine FL1k rfl rfl rfl rfl rfl ?_) | refine FV1 rfl rfl rfl ?_))
      exact JF_to (by repeat (first | exact True.intro | refine And.intro rfl ?_)) (fun H hl => hl.pick (is := [3, 3, 3, 3, 3, 0, 0, 0, 0, 0, 0, 0, 0]) rfl) (fun H hl => hl.pick (is := [1, 1]) rfl) (hz b2)
  · intro b2
    refine JF_l1 (JFO_l0 rfl (OL_store rfl rfl rfl rfl rfl rfl (i := 0) rfl (by rfl)) rfl (.inl rfl) ?_)
    rintro _ _ rfl _
    repeat' (refine IsF ?_; first | (refine JF_fin ?_; refine At_np ?_) | (refine JF_op rfl ?_; refine FsO ?_; first | (refine FsLoad ?_; refine FL1k rfl rfl rfl rfl rfl ?_) | refine FV1 rfl rfl rfl ?_))
    refine At_then_normal ?_
    repeat' (first | (refine IsO ?_; first | refine JO_nil ?_ | (refine IsLoad ?_; refine L1 rfl rfl rfl rfl ?_) | (refine IsStore ?_; refine S1 rfl rfl rfl rfl rfl rfl rfl (fun _ => ?_)) | refine V1 rfl rfl rfl ?_) | (refine IsAt ?_; (with_reducible refine T1 ?_)) | (refine IsJ ?_; first | refine J_seq ?_ | refine J_region ?_ | refine J_skip ?_ | (refine IsCond ?_; refine J_cond_f rfl ?_)))
    refine J_drawk [blk b2 [.int .i64 o.k, .int .i64 o.ws.length, .int .i64 o.p] 45] (fun H hl => hl.pick (is := [0]) rfl) [0, 0, 0, 0, 5, 0, 0, 5, 0, 0, 2, 0, 0, 2, 0, 0, 2] (List.range 17) (by kernel_rfl) (by kernel_rfl) ?_
    repeat' (refine IsX ?_; first | (refine JX_nil ?_; refine At_np ?_) | (refine JX_op rfl ?_; refine XsO ?_; first | (refine XsBin ?_; refine XB1 rfl rfl rfl rfl rfl ?_) | (refine XsLoad ?_; first | refine XL1k rfl rfl rfl rfl rfl ?_ | refine XL1 rfl rfl rfl rfl rfl ?_) | refine XV1 rfl rfl rfl rfl ?_))
    refine JX_l0k rfl rfl (OL_store rfl rfl rfl rfl rfl rfl (i := 1) rfl (by rfl)) rfl ?_ ?_
    · rintro _ _ rfl H hl
      exact hl.pick (is := [1]) rfl
    rintro _ _ rfl _
    repeat' (refine IsX ?_; first | (refine JX_nil ?_; refine At_np ?_) | (refine JX_op rfl ?_; refine XsO ?_; first | (refine XsBin ?_; refine XB1 rfl rfl rfl rfl rfl ?_) | (refine XsLoad ?_; first | refine XL1k rfl rfl rfl rfl rfl ?_ | refine XL1 rfl rfl rfl rfl rfl ?_) | refine XV1 rfl rfl rfl rfl ?_))
    refine JX_l0k rfl rfl (OL_store rfl rfl rfl rfl rfl rfl (i := 0) rfl (by rfl)) rfl ?_ ?_
    · rintro _ _ rfl H hl
      exact hl.pick (is := [1]) rfl
    rintro _ _ rfl _
    repeat' (refine IsX ?_; first | (refine JX_nil ?_; refine At_np ?_) | (refine JX_op rfl ?_; refine XsO ?_; first | (refine XsBin ?_; refine XB1 rfl rfl rfl rfl rfl ?_) | (refine XsLoad ?_; first | refine XL1k rfl rfl rfl rfl rfl ?_ | refine XL1 rfl rfl rfl rfl rfl ?_) | refine XV1 rfl rfl rfl rfl ?_))
    refine JX_l0k rfl rfl (OL_store rfl rfl rfl rfl rfl rfl (i := 0) rfl (by rfl)) rfl ?_ ?_
    · rintro _ _ rfl H hl
      exact hl.pick (is := [1]) rfl
    rintro _ _ rfl _
    repeat' (refine IsX ?_; first | (refine JX_nil ?_; refine At_np ?_) | (refine JX_op rfl ?_; refine XsO ?_; first | (refine XsBin ?_; refine XB1 rfl rfl rfl rfl rfl ?_) | (refine XsLoad ?_; first | refine XL1k rfl rfl rfl rfl rfl ?_ | refine XL1 rfl rfl rfl rfl rfl ?_) | refine XV1 rfl rfl rfl rfl ?_))
    repeat' (first | (refine IsO ?_; first | refine JO_nil ?_ | (refine IsLoad ?_; refine L1 rfl rfl rfl rfl ?_) | (refine IsStore ?_; refine S1 rfl rfl rfl rfl rfl rfl rfl (fun _ => ?_)) | refine V1 rfl rfl rfl ?_) | (refine IsAt ?_; (with_reducible refine T1 ?_)) | (refine IsJ ?_; first | refine J_seq ?_ | refine J_region ?_ | refine J_skip ?_ | (refine IsCond ?_; refine J_cond_f rfl ?_)))
    exact At_end rfl rfl .nil rfl (is := [0, 2, 1, 1, 1, 1, 1, 1, 1, 1, 1, 1]) rfl ⟨oa', oc - 1, rfl, rfl⟩
end raw
end Go.Proofs.Ytahfnbpbdnmggaa
