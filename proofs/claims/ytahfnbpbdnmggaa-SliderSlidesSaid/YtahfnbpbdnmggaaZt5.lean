/-
  Our own: what the claims of Zt share, 5 of 6: Swe Swf Sgb Sgc Oft Sia Sig Sih Sij Sid Sib Sic Srf Sie Sif LaSj.
-/
import Derived.Test.YtahfnbpbdnmggaaZt4
import Derived.RangeFuncStops
import Derived.RangeFuncLeaves
import Derived.LoopNIn
import Derived.Laws.StructEq
import Derived.Tactics
import Derived.Laws.Slices
import Derived.Deep.Quiet
import Derived.IntWalk
import Derived.Shelf.Abstract
import Derived.Laws.Entries
import Derived.Laws.Rows
import Derived.Below
import Derived.TacticsIn
import Derived.OrdersIn
import Derived.KernelRfl
import Derived.Test.YtahfnbpbdnmggaaProg
import Derived.ChangeArms
import Derived.WalkKit
import Derived.ProofKit
import Derived.OpenShut
import Derived.ChangeOld
import Derived.SizedLaws
import Derived.Carry
import Derived.Lib.SmallJoins
import Derived.Laws.Shifts
import Derived.Laws.Bits64b
/-
  Our own: the slider's worker: fetch, lay.
-/
set_option linter.unusedVariables false
set_option linter.unusedSimpArgs false
namespace Go.Proofs.Ytahfnbpbdnmggaa
open Go.Sep
section raw
variable {ps pf p bw bs pm bm bst bf n T w nR pw bw2 pz nW wc : Nat} {wa : Option Addr} {pv mv tv : Int} {ws : List Int} {st : List Bool} {os : List RO} {ms : List Nat} {rs : List RG} {fs wds : List Int}
  {c : Nat} {who : Int} {fn : FuncId} {region : Int} {wv ov : Value} {from_ to size refs at_ word end_ : Int}
set_option maxHeartbeats 8000000 in
theorem Fetch_spec (fi ai : Nat) {v : Int} (h1 : 0 ≤ who) (h2 : who < 64) (hv : wds[fi + ai]? = some v) (hs : wds.length ≤ 65536) (ht : In64 (tv + 1)) :
    Does Try.prog 94 [ptr c 0] [wkR ps c who fn region wv ov fi to size refs ai word end_, sdB ps pf p pw pz wa nW wc pv mv tv, cellsZ pw bw2 wds]
    (fun u l => u = .tuple #[] ∧ l = [wkR ps c who 99 region wv ov fi to size refs ai v end_, sdB ps pf p pw pz wa nW wc pv mv (tv + 1), cellsZ pw bw2 wds]) := by
  obtain ⟨t1, t2⟩ := ht
  have hfa := (List.getElem?_eq_some_iff.1 hv).1
  refine Does.of tiok Try.func94 (by kernel_rfl) rfl Try.ntmps94 rfl ?_
  intro W fr
  repeat' (first | (refine IsO ?_; first | refine JO_nil ?_ | (refine IsBin ?_; refine B1 rfl rfl rfl rfl ?_) | (refine IsLoad ?_; refine L1 rfl rfl rfl rfl ?_) | (refine IsStore ?_; refine S1 rfl rfl rfl rfl rfl rfl rfl (fun _ => ?_)) | refine V1 rfl rfl rfl ?_) | (refine IsAt ?_; (with_reducible refine T1 ?_)) | (refine IsJ ?_; first | refine J_seq ?_ | refine J_region ?_))
  refine J_draw [0, 0, 0, 0, 1, 0, 0, 1, 0, 0, 0, 1, 0, 0, 0, 1, 0, 0, 0, 1, 0, 2, 0, 0, 0, 0, 0, 2] (List.range 28) (by kernel_rfl) (by kernel_rfl) ?_
  repeat' (refine IsX ?_; first | (refine JX_nil ?_; refine At_np ?_) | (refine JX_op rfl ?_; refine XsO ?_; first | (refine XsBin ?_; refine XB1 rfl rfl rfl rfl rfl ?_) | (refine XsLoad ?_; refine XL1 rfl rfl rfl rfl rfl ?_) | (refine XsStore ?_; refine XS1 rfl rfl rfl rfl rfl rfl rfl rfl (fun _ => ?_)) | refine XV1 rfl rfl rfl rfl ?_))
  rw [show (fi : Int) + (ai : Int) = ((fi + ai : Nat) : Int) by omega]
  refine JX_l rfl rfl (OL_call [2] rfl rfl rfl (Load_z (p := pw) (bw := bw2) who v (fi + ai) h1 h2 hv hs) rfl) rfl rfl ?_
  rintro _ _ ⟨_, ⟨rfl, rfl⟩, rfl⟩
  repeat' (refine IsX ?_; first | (refine JX_nil ?_; refine At_np ?_) | (refine JX_op rfl ?_; refine XsO ?_; first | (refine XsBin ?_; refine XB1 rfl rfl rfl rfl rfl ?_) | (refine XsLoad ?_; refine XL1 rfl rfl rfl rfl rfl ?_) | (refine XsStore ?_; refine XS1 rfl rfl rfl rfl rfl rfl rfl rfl (fun _ => ?_)) | refine XV1 rfl rfl rfl rfl ?_))
  repeat' (first | (refine IsO ?_; first | refine JO_nil ?_ | (refine IsBin ?_; refine B1 rfl rfl rfl rfl ?_) | (refine IsLoad ?_; refine L1 rfl rfl rfl rfl ?_) | (refine IsStore ?_; refine S1 rfl rfl rfl rfl rfl rfl rfl (fun _ => ?_)) | refine V1 rfl rfl rfl ?_) | (refine IsAt ?_; (with_reducible refine T1 ?_)) | (refine IsJ ?_; first | refine J_seq ?_ | refine J_region ?_))
  exact At_end rfl rfl .nil rfl (is := [0, 0, 0]) rfl ⟨rfl, rfl⟩
set_option maxHeartbeats 16000000 in
theorem Lay_spec (qi ai : Nat) (z : Int) (h1 : 0 ≤ who) (h2 : who < 64) (hz : (0 < ai ∧ (ai : Int) ≤ refs ∧ ∃ e : Int, Does Try.prog 47 [ptr pf 0, .int .i64 word] (fwdL pf p bw bs pm bm bst bf n T w nR ws st ms rs fs) (fun v l => v = .tuple #[.int .i64 z, .int .i64 e] ∧ l = fwdL pf p bw bs pm bm bst bf n T w nR ws st ms rs fs)) ∨ (¬ (0 < ai ∧ (ai : Int) ≤ refs) ∧ z = word))
    (hp : qi + ai < wds.length) (hs : wds.length ≤ 65536) (ht : In64 (tv + 1)) (hm : In64 (mv + 1)) :
    Does Try.prog 99 [ptr c 0] (wkR ps c who fn region wv ov from_ qi size refs ai word end_ :: sdB ps pf p pw pz wa nW wc pv mv tv :: cellsZ pw bw2 wds :: fwdL pf p bw bs pm bm bst bf n T w nR ws st ms rs fs)
    (fun u l => u = .tuple #[] ∧ l = wkR ps c who (if (ai : Int) + 1 = size then 85 else 94) region wv ov from_ qi size refs ((ai : Int) + 1) z end_ :: sdB ps pf p pw pz wa nW wc pv (if (ai : Int) + 1 = size then mv + 1 else mv) (tv + 1) :: cellsZ pw bw2 (wds.set (qi + ai) z) :: fwdL pf p bw bs pm bm bst bf n T w nR ws st ms rs fs) := by
  obtain ⟨t1, t2⟩ := ht
  obtain ⟨m1, m2⟩ := hm
  refine Does.of tiok Try.func99 (by kernel_rfl) rfl Try.ntmps99 rfl ?_
  intro W fr
  apply J_tail (α := Unit) (fun _ => True) (fun _ => [(0, ptr c 0)]) (fun _ => wkR ps c who fn region wv ov from_ qi size refs ai z end_ :: sdB ps pf p pw pz wa nW wc pv mv tv :: cellsZ pw bw2 wds :: fwdL pf p bw bs pm bm bst bf n T w nR ws st ms rs fs)
  · intro hT
    repeat' (first | (refine IsO ?_; first | refine JO_nil ?_ | (refine IsBin ?_; refine B1 rfl rfl rfl rfl ?_) | (refine IsLoad ?_; refine L1 rfl rfl rfl rfl ?_) | (refine IsStore ?_; refine S1 rfl rfl rfl rfl rfl rfl rfl (fun _ => ?_)) | refine V1 rfl rfl rfl ?_) | (refine IsAt ?_; (with_reducible refine T1 ?_)) | (refine IsJ ?_; first | refine J_seq ?_ | refine J_region ?_ | refine J_skip ?_ | (refine IsCond ?_; first | refine J_cond_f rfl ?_ | refine K1 rfl ?_ | refine K2 rfl ?_)))
    refine J_draw [0, 0, 0, 1, 0, 0, 0, 0, 0, 1, 0, 0, 0, 1, 0, 0] (List.range 16) (by kernel_rfl) (by kernel_rfl) ?_
    have hz2 := hz
    rcases hz2 with ⟨ha, hr, e, hW⟩ | ⟨hno, hzw⟩
    · repeat' (refine IsX ?_; first | (refine JX_nil ?_; refine At_np ?_) | (refine JX_op rfl ?_; refine XsO ?_; first | (refine XsG ?_; refine XG1 rfl rfl rfl ?_) | (refine XsMove ?_; first | refine XM1 rfl rfl rfl rfl ?_ | refine XM2 rfl rfl rfl rfl ?_) | (refine XsBin ?_; refine XB1 rfl rfl rfl rfl rfl ?_) | (refine XsLoad ?_; refine XL1 rfl rfl rfl rfl rfl ?_) | refine XV1 rfl rfl rfl rfl ?_))
      repeat' (first | (refine IsO ?_; first | refine JO_nil ?_ | (refine IsBin ?_; refine B1 rfl rfl rfl rfl ?_) | (refine IsLoad ?_; refine L1 rfl rfl rfl rfl ?_) | (refine IsStore ?_; refine S1 rfl rfl rfl rfl rfl rfl rfl (fun _ => ?_)) | refine V1 rfl rfl rfl ?_) | (refine IsAt ?_; (with_reducible refine T1 ?_)) | (refine IsJ ?_; first | refine J_seq ?_ | refine J_region ?_ | refine J_skip ?_ | (refine IsCond ?_; first | refine J_cond_f rfl ?_ | refine K1 rfl ?_ | refine K2 rfl ?_)))
      refine J_draw [0, 0, 0, 0, 1, 0, 0, 1, 0, 0, 0, 1, 2, 0, 0, 0, 0, 0, 2] (List.range 19) (by kernel_rfl) (by kernel_rfl) ?_
      repeat' (refine IsX ?_; first | (refine JX_nil ?_; refine At_np ?_) | (refine JX_op rfl ?_; refine XsO ?_; first | (refine XsG ?_; refine XG1 rfl rfl rfl ?_) | (refine XsMove ?_; first | refine XM1 rfl rfl rfl rfl ?_ | refine XM2 rfl rfl rfl rfl ?_) | (refine XsBin ?_; refine XB1 rfl rfl rfl rfl rfl ?_) | (refine XsLoad ?_; refine XL1 rfl rfl rfl rfl rfl ?_) | refine XV1 rfl rfl rfl rfl ?_))
      refine JX_l rfl rfl (OL_call [3, 3, 3, 3, 3, 3, 3, 3, 3] rfl rfl rfl hW rfl) rfl rfl ?_
      rintro _ _ ⟨_, ⟨rfl, rfl⟩, rfl⟩
      repeat' (refine IsX ?_; first | (refine JX_nil ?_; refine At_np ?_) | (refine JX_op rfl ?_; refine XsO ?_; first | (refine XsG ?_; refine XG1 rfl rfl rfl ?_) | (refine XsMove ?_; first | refine XM1 rfl rfl rfl rfl ?_ | refine XM2 rfl rfl rfl rfl ?_) | (refine XsBin ?_; refine XB1 rfl rfl rfl rfl rfl ?_) | (refine XsLoad ?_; refine XL1 rfl rfl rfl rfl rfl ?_) | refine XV1 rfl rfl rfl rfl ?_))
      refine JX_l0 rfl rfl (OL_store rfl rfl rfl rfl rfl rfl (i := 9) rfl (by rfl)) rfl ?_
      rintro _ _ rfl
      repeat' (refine IsX ?_; first | (refine JX_nil ?_; refine At_np ?_) | (refine JX_op rfl ?_; refine XsO ?_; first | (refine XsG ?_; refine XG1 rfl rfl rfl ?_) | (refine XsMove ?_; first | refine XM1 rfl rfl rfl rfl ?_ | refine XM2 rfl rfl rfl rfl ?_) | (refine XsBin ?_; refine XB1 rfl rfl rfl rfl rfl ?_) | (refine XsLoad ?_; refine XL1 rfl rfl rfl rfl rfl ?_) | refine XV1 rfl rfl rfl rfl ?_))
      refine At_then_normal ?_
      exact J_regs (by repeat (first | exact True.intro | refine And.intro rfl ?_)) (J_hp (fun H hl => hl.pick (is := [0, 9, 9, 0, 0, 0, 0, 0, 0, 0, 0, 0]) rfl) (hT () trivial))
    · by_cases ha : 0 < ai
      · repeat' (refine IsX ?_; first | (refine JX_nil ?_; refine At_np ?_) | (refine JX_op rfl ?_; refine XsO ?_; first | (refine XsG ?_; refine XG1 rfl rfl rfl ?_) | (refine XsMove ?_; first | refine XM1 rfl rfl rfl rfl ?_ | refine XM2 rfl rfl rfl rfl ?_) | (refine XsBin ?_; refine XB1 rfl rfl rfl rfl rfl ?_) | (refine XsLoad ?_; refine XL1 rfl rfl rfl rfl rfl ?_) | refine XV1 rfl rfl rfl rfl ?_))
        repeat' ((fail_if_success (with_reducible show J _ (Code.seq (Code.region 2 _ _) _) _ _ _)); first | (refine IsO ?_; first | refine JO_nil ?_ | (refine IsBin ?_; refine B1 rfl rfl rfl rfl ?_) | (refine IsLoad ?_; refine L1 rfl rfl rfl rfl ?_) | (refine IsStore ?_; refine S1 rfl rfl rfl rfl rfl rfl rfl (fun _ => ?_)) | refine V1 rfl rfl rfl ?_) | (refine IsAt ?_; (with_reducible refine T1 ?_)) | (refine IsJ ?_; first | refine J_seq ?_ | refine J_region ?_ | refine J_skip ?_ | (refine IsCond ?_; first | refine J_cond_f rfl ?_ | refine K1 rfl ?_ | refine K2 rfl ?_)))
        exact J_regs (by repeat (first | exact True.intro | refine And.intro rfl ?_)) (J_hp (fun H hl => by rw [hzw]; exact hl) (hT () trivial))
      · repeat' (refine IsX ?_; first | (refine JX_nil ?_; refine At_np ?_) | (refine JX_op rfl ?_; refine XsO ?_; first | (refine XsG ?_; refine XG1 rfl rfl rfl ?_) | (refine XsMove ?_; first | refine XM1 rfl rfl rfl rfl ?_ | refine XM2 rfl rfl rfl rfl ?_) | (refine XsBin ?_; refine XB1 rfl rfl rfl rfl rfl ?_) | (refine XsLoad ?_; refine XL1 rfl rfl rfl rfl rfl ?_) | refine XV1 rfl rfl rfl rfl ?_))
        repeat' ((fail_if_success (with_reducible show J _ (Code.seq (Code.region 2 _ _) _) _ _ _)); first | (refine IsO ?_; first | refine JO_nil ?_ | (refine IsBin ?_; refine B1 rfl rfl rfl rfl ?_) | (refine IsLoad ?_; refine L1 rfl rfl rfl rfl ?_) | (refine IsStore ?_; refine S1 rfl rfl rfl rfl rfl rfl rfl (fun _ => ?_)) | refine V1 rfl rfl rfl ?_) | (refine IsAt ?_; (with_reducible refine T1 ?_)) | (refine IsJ ?_; first | refine J_seq ?_ | refine J_region ?_ | refine J_skip ?_ | (refine IsCond ?_; first | refine J_cond_f rfl ?_ | refine K1 rfl ?_ | refine K2 rfl ?_)))
        exact J_regs (by repeat (first | exact True.intro | refine And.intro rfl ?_)) (J_hp (fun H hl => by rw [hzw]; exact hl) (hT () trivial))
  rintro _ _
  repeat' (first | (refine IsO ?_; first | refine JO_nil ?_ | (refine IsBin ?_; refine B1 rfl rfl rfl rfl ?_) | (refine IsLoad ?_; refine L1 rfl rfl rfl rfl ?_) | (refine IsStore ?_; refine S1 rfl rfl rfl rfl rfl rfl rfl (fun _ => ?_)) | refine V1 rfl rfl rfl ?_) | (refine IsAt ?_; (with_reducible refine T1 ?_)) | (refine IsJ ?_; first | refine J_seq ?_ | refine J_region ?_ | refine J_skip ?_ | (refine IsCond ?_; first | refine J_cond_f rfl ?_ | refine K1 rfl ?_ | refine K2 rfl ?_)))
  refine J_draw [0, 0, 0, 1, 0, 0, 1, 0, 0, 0, 1, 0, 0, 0, 1, 0, 0, 0, 1, 0, 0, 0, 0, 1, 2] (List.range 25) (by kernel_rfl) (by kernel_rfl) ?_
  repeat' (refine IsX ?_; first | (refine JX_nil ?_; refine At_np ?_) | (refine JX_op rfl ?_; refine XsO ?_; first | (refine XsG ?_; refine XG1 rfl rfl rfl ?_) | (refine XsMove ?_; first | refine XM1 rfl rfl rfl rfl ?_ | refine XM2 rfl rfl rfl rfl ?_) | (refine XsBin ?_; refine XB1 rfl rfl rfl rfl rfl ?_) | (refine XsLoad ?_; refine XL1 rfl rfl rfl rfl rfl ?_) | refine XV1 rfl rfl rfl rfl ?_))
  rw [show (qi : Int) + (ai : Int) = ((qi + ai : Nat) : Int) by omega]
  refine JX_l rfl rfl (OL_call [2] rfl rfl rfl (Store_z (p := pw) (bw := bw2) (ws := wds) who z (qi + ai) h1 h2 hp hs) rfl) rfl rfl ?_
  rintro _ _ ⟨_, ⟨rfl, rfl⟩, rfl⟩
  repeat' (refine IsX ?_; first | (refine JX_nil ?_; refine At_np ?_) | (refine JX_op rfl ?_; refine XsO ?_; first | (refine XsG ?_; refine XG1 rfl rfl rfl ?_) | (refine XsMove ?_; first | refine XM1 rfl rfl rfl rfl ?_ | refine XM2 rfl rfl rfl rfl ?_) | (refine XsBin ?_; refine XB1 rfl rfl rfl rfl rfl ?_) | (refine XsLoad ?_; refine XL1 rfl rfl rfl rfl rfl ?_) | refine XV1 rfl rfl rfl rfl ?_))
  repeat' (first | (refine IsO ?_; first | refine JO_nil ?_ | (refine IsBin ?_; refine B1 rfl rfl rfl rfl ?_) | (refine IsLoad ?_; refine L1 rfl rfl rfl rfl ?_) | (refine IsStore ?_; refine S1 rfl rfl rfl rfl rfl rfl rfl (fun _ => ?_)) | refine V1 rfl rfl rfl ?_) | (refine IsAt ?_; (with_reducible refine T1 ?_)) | (refine IsJ ?_; first | refine J_seq ?_ | refine J_region ?_ | refine J_skip ?_ | (refine IsCond ?_; first | refine J_cond_f rfl ?_ | refine K1 rfl ?_ | refine K2 rfl ?_)))
  refine J_draw [0, 0, 0, 1, 0, 0, 0, 1, 0] (List.range 9) (by kernel_rfl) (by kernel_rfl) ?_
  repeat' (refine IsX ?_; first | (refine JX_nil ?_; refine At_np ?_) | (refine JX_op rfl ?_; refine XsO ?_; first | (refine XsG ?_; refine XG1 rfl rfl rfl ?_) | (refine XsMove ?_; first | refine XM1 rfl rfl rfl rfl ?_ | refine XM2 rfl rfl rfl rfl ?_) | (refine XsBin ?_; refine XB1 rfl rfl rfl rfl rfl ?_) | (refine XsLoad ?_; refine XL1 rfl rfl rfl rfl rfl ?_) | refine XV1 rfl rfl rfl rfl ?_))
  by_cases hsz : (ai : Int) + 1 = size
  · repeat' (first | (refine IsO ?_; first | refine JO_nil ?_ | (refine IsBin ?_; refine B1 rfl rfl rfl rfl ?_) | (refine IsLoad ?_; refine L1 rfl rfl rfl rfl ?_) | (refine IsStore ?_; refine S1 rfl rfl rfl rfl rfl rfl rfl (fun _ => ?_)) | refine V1 rfl rfl rfl ?_) | (refine IsAt ?_; (with_reducible refine T1 ?_)) | (refine IsJ ?_; first | refine J_seq ?_ | refine J_region ?_ | refine J_skip ?_ | (refine IsCond ?_; first | refine J_cond_f rfl ?_ | refine K1 rfl ?_ | refine K2 rfl ?_)))
    refine At_end rfl rfl .nil rfl (is := [0, 0, 0, 0, 0, 0, 0, 0, 0, 0, 0, 0]) rfl ⟨rfl, ?_⟩
    rw [if_pos hsz, if_pos hsz]
    rfl
  · repeat' (first | (refine IsO ?_; first | refine JO_nil ?_ | (refine IsBin ?_; refine B1 rfl rfl rfl rfl ?_) | (refine IsLoad ?_; refine L1 rfl rfl rfl rfl ?_) | (refine IsStore ?_; refine S1 rfl rfl rfl rfl rfl rfl rfl (fun _ => ?_)) | refine V1 rfl rfl rfl ?_) | (refine IsAt ?_; (with_reducible refine T1 ?_)) | (refine IsJ ?_; first | refine J_seq ?_ | refine J_region ?_ | refine J_skip ?_ | (refine IsCond ?_; first | refine J_cond_f rfl ?_ | refine K1 rfl ?_ | refine K2 rfl ?_)))
    refine At_end rfl rfl .nil rfl (is := [0, 0, 0, 0, 0, 0, 0, 0, 0, 0, 0, 0]) rfl ⟨rfl, ?_⟩
    rw [if_neg hsz, if_neg hsz]
    rfl
end raw
end Go.Proofs.Ytahfnbpbdnmggaa
/-
  Our own: the slider's worker: all, part, clear, rest.
-/
set_option linter.unusedVariables false
set_option linter.unusedSimpArgs false
namespace Go.Proofs.Ytahfnbpbdnmggaa
open Go.Sep
section raw
variable {ps pf p bw bs pm bm bst bf n T w nR pw bw2 pz bz nW wc : Nat} {wa : Option Addr} {pv mv tv : Int} {ws : List Int} {st : List Bool} {os : List RO} {ms : List Nat} {rs : List RG} {fs wds sts : List Int}
  {c : Nat} {who : Int} {fn : FuncId} {region : Int} {wv ov : Value} {from_ to size refs at_ word end_ : Int}
theorem Rest_spec : Does Try.prog 96 [ptr c 0] [] (fun u l => u = .tuple #[] ∧ l = []) := by
  refine Does.of tiok Try.func96 (by kernel_rfl) rfl Try.ntmps96 rfl ?_
  intro W fr
  repeat' ((refine IsJ ?_; refine J_skip ?_))
  exact At_end rfl rfl .nil rfl (is := []) rfl ⟨rfl, rfl⟩
set_option maxHeartbeats 8000000 in
/-- All regions are done. -/
theorem All_end (h1 : at_ = nR) :
    Does Try.prog 70 [ptr c 0] [wkR ps c who fn region wv ov from_ to size refs at_ word end_, sdB ps pf p pw pz wa nW wc pv mv tv, blk pf (fwdV p pm w bst bf nR) 106]
    (fun u l => u = .tuple #[] ∧ l = [wkR ps c who 87 region wv ov from_ to size refs at_ word end_, sdB ps pf p pw pz wa nW wc pv mv tv, blk pf (fwdV p pm w bst bf nR) 106]) := by
  refine Does.of tiok Try.func70 (by kernel_rfl) rfl Try.ntmps70 rfl ?_
  intro W fr
  repeat' (first | (refine IsO ?_; first | refine JO_nil ?_ | (refine IsStore ?_; refine S1 rfl rfl rfl rfl rfl rfl rfl (fun _ => ?_)) | refine V1 rfl rfl rfl ?_) | (refine IsAt ?_; (with_reducible first | refine T1 ?_ | refine T2 ?_)) | (refine IsJ ?_; first | refine J_seq ?_ | refine J_region ?_ | refine J_ret ?_ | (refine IsCond ?_; refine K1 rfl ?_)))
  refine J_drawk [wkR ps c who fn region wv ov from_ to size refs at_ word end_, sdB ps pf p pw pz wa nW wc pv mv tv, blk pf (fwdV p pm w bst bf nR) 106] (fun H hl => hl) [0, 0, 0, 5, 0, 0, 0, 5, 0, 0, 5, 0, 0, 5, 2, 0] (List.range 16) (by kernel_rfl) (by kernel_rfl) ?_
  repeat' (refine IsX ?_; first | (refine JX_nil ?_; refine At_np ?_) | (refine JX_op rfl ?_; refine XsO ?_; first | (refine XsLoad ?_; first | refine XL1k rfl rfl rfl rfl rfl ?_ | refine XL2k rfl rfl rfl rfl rfl rfl ?_) | refine XV1 rfl rfl rfl rfl ?_))
  refine JX_lk rfl rfl (OL_call [] rfl rfl rfl (RegLen_spec (w := w) (bst := bst) (bf := bf) (nR := nR)) rfl) rfl rfl ?_ ?_
  · rintro _ _ ⟨_, ⟨rfl, rfl⟩, rfl⟩ H hl
    exact hl
  rintro _ _ ⟨_, ⟨rfl, rfl⟩, rfl⟩ _
  repeat' (refine IsX ?_; first | (refine JX_nil ?_; refine At_np ?_) | (refine JX_op rfl ?_; refine XsO ?_; first | (refine XsLoad ?_; first | refine XL1k rfl rfl rfl rfl rfl ?_ | refine XL2k rfl rfl rfl rfl rfl rfl ?_) | refine XV1 rfl rfl rfl rfl ?_))
  repeat' (first | (refine IsO ?_; first | refine JO_nil ?_ | (refine IsStore ?_; refine S1 rfl rfl rfl rfl rfl rfl rfl (fun _ => ?_)) | refine V1 rfl rfl rfl ?_) | (refine IsAt ?_; (with_reducible first | refine T1 ?_ | refine T2 ?_)) | (refine IsJ ?_; first | refine J_seq ?_ | refine J_region ?_ | refine J_ret ?_ | (refine IsCond ?_; refine K1 rfl ?_)))
  exact At_ret rfl rfl .nil rfl (is := [0, 0, 0]) rfl ⟨rfl, rfl⟩
set_option maxHeartbeats 8000000 in
/-- One region is looked at. -/
theorem All_look (ai : Nat) {y : Int} (h1 : 0 ≤ who) (h2 : who < 64) (ha : ai < nR) (hn : nR ≤ 65536) (hy : sts[3 + ai]? = some y) (hs : sts.length ≤ 65536) (ht : In64 (tv + 1)) :
    Does Try.prog 70 [ptr c 0] [wkR ps c who fn region wv ov from_ to size refs ai word end_, sdB ps pf p pw pz wa nW wc pv mv tv, blk pf (fwdV p pm w bst bf nR) 106, cellsZ pz bz sts]
    (fun u l => u = .tuple #[] ∧ l = [wkR ps c who fn region wv ov from_ to size refs (if 0 < y then (ai : Int) + 1 else ai) word end_, sdB ps pf p pw pz wa nW wc pv mv (tv + 1), blk pf (fwdV p pm w bst bf nR) 106, cellsZ pz bz sts]) := by
  refine Does.of tiok Try.func70 (by kernel_rfl) rfl Try.ntmps70 rfl ?_
  intro W fr
  repeat' (first | (refine IsO ?_; first | refine JO_nil ?_ | (refine IsBin ?_; refine B1 rfl rfl rfl rfl ?_) | (refine IsLoad ?_; refine L1 rfl rfl rfl rfl ?_) | (refine IsStore ?_; refine S1 rfl rfl rfl rfl rfl rfl rfl (fun _ => ?_)) | refine V1 rfl rfl rfl ?_) | (refine IsAt ?_; (with_reducible refine T1 ?_)) | (refine IsJ ?_; first | refine J_seq ?_ | refine J_region ?_ | refine J_skip ?_ | (refine IsCond ?_; first | refine K1 rfl ?_ | refine K2 rfl ?_)))
  refine J_drawk [wkR ps c who fn region wv ov from_ to size refs ai word end_, sdB ps pf p pw pz wa nW wc pv mv tv, blk pf (fwdV p pm w bst bf nR) 106] (fun H hl => hl.pick (is := [0, 0, 0]) rfl) [0, 0, 0, 5, 0, 0, 0, 5, 0, 0, 5, 0, 0, 5, 2, 0] (List.range 16) (by kernel_rfl) (by kernel_rfl) ?_
  repeat' (refine IsX ?_; first | (refine JX_nil ?_; refine At_np ?_) | (refine JX_op rfl ?_; refine XsO ?_; first | (refine XsLoad ?_; first | refine XL1k rfl rfl rfl rfl rfl ?_ | refine XL2k rfl rfl rfl rfl rfl rfl ?_) | refine XV1 rfl rfl rfl rfl ?_))
  refine JX_lk rfl rfl (OL_call [] rfl rfl rfl (RegLen_spec (w := w) (bst := bst) (bf := bf) (nR := nR)) rfl) rfl rfl ?_ ?_
  · rintro _ _ ⟨_, ⟨rfl, rfl⟩, rfl⟩ H hl
    exact hl.pick (is := [0, 0, 0]) rfl
  rintro _ _ ⟨_, ⟨rfl, rfl⟩, rfl⟩ _
  repeat' (refine IsX ?_; first | (refine JX_nil ?_; refine At_np ?_) | (refine JX_op rfl ?_; refine XsO ?_; first | (refine XsLoad ?_; first | refine XL1k rfl rfl rfl rfl rfl ?_ | refine XL2k rfl rfl rfl rfl rfl rfl ?_) | refine XV1 rfl rfl rfl rfl ?_))
  repeat' (first | (refine IsO ?_; first | refine JO_nil ?_ | (refine IsBin ?_; refine B1 rfl rfl rfl rfl ?_) | (refine IsLoad ?_; refine L1 rfl rfl rfl rfl ?_) | (refine IsStore ?_; refine S1 rfl rfl rfl rfl rfl rfl rfl (fun _ => ?_)) | refine V1 rfl rfl rfl ?_) | (refine IsAt ?_; (with_reducible refine T1 ?_)) | (refine IsJ ?_; first | refine J_seq ?_ | refine J_region ?_ | refine J_skip ?_ | (refine IsCond ?_; first | refine K1 rfl ?_ | refine K2 rfl ?_)))
  rw [show (3 : Int) + (ai : Int) = ((3 + ai : Nat) : Int) by omega]
  refine JO_l (OL_call [0, 0, 1] rfl rfl rfl (wLoad (bz := bz) (3 + ai) h1 h2 hy hs ht) rfl) rfl rfl ?_
  rintro _ _ ⟨_, ⟨rfl, rfl⟩, rfl⟩
  by_cases hy0 : 0 < y
  · repeat' (first | (refine IsO ?_; first | refine JO_nil ?_ | (refine IsBin ?_; refine B1 rfl rfl rfl rfl ?_) | (refine IsLoad ?_; refine L1 rfl rfl rfl rfl ?_) | (refine IsStore ?_; refine S1 rfl rfl rfl rfl rfl rfl rfl (fun _ => ?_)) | refine V1 rfl rfl rfl ?_) | (refine IsAt ?_; (with_reducible refine T1 ?_)) | (refine IsJ ?_; first | refine J_seq ?_ | refine J_region ?_ | refine J_skip ?_ | (refine IsCond ?_; first | refine K1 rfl ?_ | refine K2 rfl ?_)))
    refine At_end rfl rfl .nil rfl (is := [0, 0, 1, 0]) rfl ⟨rfl, ?_⟩
    rw [if_pos hy0]
  · repeat' (first | (refine IsO ?_; first | refine JO_nil ?_ | (refine IsBin ?_; refine B1 rfl rfl rfl rfl ?_) | (refine IsLoad ?_; refine L1 rfl rfl rfl rfl ?_) | (refine IsStore ?_; refine S1 rfl rfl rfl rfl rfl rfl rfl (fun _ => ?_)) | refine V1 rfl rfl rfl ?_) | (refine IsAt ?_; (with_reducible refine T1 ?_)) | (refine IsJ ?_; first | refine J_seq ?_ | refine J_region ?_ | refine J_skip ?_ | (refine IsCond ?_; first | refine K1 rfl ?_ | refine K2 rfl ?_)))
    refine At_end rfl rfl .nil rfl (is := [0, 0, 1, 0]) rfl ⟨rfl, ?_⟩
    rw [if_neg hy0]
set_option maxHeartbeats 8000000 in
/-- No part is left. -/
theorem Part_none (D : Nat) (h1 : 0 ≤ who) (h2 : who < 64) (hD : sts[1]? = some (D : Int)) (hD2 : D ≤ 1000000000) (hDP : pv ≤ D) (hs : sts.length ≤ 65536) (ht : In64 (tv + 1)) :
    Does Try.prog 87 [ptr c 0] [wkR ps c who fn region wv ov from_ to size refs at_ word end_, sdB ps pf p pw pz wa nW wc pv mv tv, cellsZ pz bz sts]
    (fun u l => u = .tuple #[] ∧ l = [wkR ps c who 96 region wv ov from_ to size refs at_ word end_, sdB ps pf p pw pz wa nW wc pv mv (tv + 1), cellsZ pz bz (sts.set 1 (D + 1))]) := by
  refine Does.of tiok Try.func87 (by kernel_rfl) rfl Try.ntmps87 rfl ?_
  intro W fr
  repeat' (first | (refine IsO ?_; first | refine JO_nil ?_ | (refine IsLoad ?_; refine L1 rfl rfl rfl rfl ?_) | (refine IsStore ?_; refine S1 rfl rfl rfl rfl rfl rfl rfl (fun _ => ?_)) | refine V1 rfl rfl rfl ?_) | (refine IsAt ?_; (with_reducible refine T1 ?_)) | (refine IsJ ?_; first | refine J_seq ?_ | refine J_region ?_ | refine J_skip ?_ | (refine IsCond ?_; refine K2 rfl ?_)))
  refine JO_l (OL_call [0, 0, 0] rfl rfl rfl (wAdd (bz := bz) 1 h1 h2 hD hs (by constructor <;> omega) ht) rfl) rfl rfl ?_
  rintro _ _ ⟨_, ⟨rfl, rfl⟩, rfl⟩
  repeat' (first | (refine IsO ?_; first | refine JO_nil ?_ | (refine IsLoad ?_; refine L1 rfl rfl rfl rfl ?_) | (refine IsStore ?_; refine S1 rfl rfl rfl rfl rfl rfl rfl (fun _ => ?_)) | refine V1 rfl rfl rfl ?_) | (refine IsAt ?_; (with_reducible refine T1 ?_)) | (refine IsJ ?_; first | refine J_seq ?_ | refine J_region ?_ | refine J_skip ?_ | (refine IsCond ?_; refine K2 rfl ?_)))
  exact At_end rfl rfl .nil rfl (is := [0, 0, 0]) rfl ⟨rfl, rfl⟩
set_option maxHeartbeats 16000000 in
/-- A part. -/
theorem Part_next (D S : Nat) (hF : RF w nR (lvs ms os) rs fs) (hS : S = szL (lvs ms os)) (h1 : 0 ≤ who) (h2 : who < 64) (hD : sts[1]? = some (D : Int)) (hD2 : D ≤ 65536) (hS2 : S ≤ 65536) (hT : T ≤ 65536) (hDP : (D : Int) < pv) (hs : sts.length ≤ 65536) (ht : In64 (tv + 1)) :
    Does Try.prog 87 [ptr c 0] (wkR ps c who fn region wv ov from_ to size refs at_ word end_ :: sdB ps pf p pw pz wa nW wc pv mv tv :: cellsZ pz bz sts :: fwdL pf p bw bs pm bm bst bf n T w nR ws st ms rs fs)
    (fun u l => u = .tuple #[] ∧ l = wkR ps c who 97 region wv ov from_ to size refs (S + D * 16 : Nat) word (min (S + D * 16 + 16) T : Nat) :: sdB ps pf p pw pz wa nW wc pv mv (tv + 1) :: cellsZ pz bz (sts.set 1 (D + 1)) :: fwdL pf p bw bs pm bm bst bf n T w nR ws st ms rs fs) := by
  refine Does.of tiok Try.func87 (by kernel_rfl) rfl Try.ntmps87 rfl ?_
  intro W fr
  repeat' (first | (refine IsO ?_; first | refine JO_nil ?_ | (refine IsBin ?_; first | refine B1 rfl rfl rfl rfl ?_ | refine B3 rfl rfl rfl rfl ?_) | (refine IsLoad ?_; refine L1 rfl rfl rfl rfl ?_) | (refine IsStore ?_; refine S1 rfl rfl rfl rfl rfl rfl rfl (fun _ => ?_)) | refine V1 rfl rfl rfl ?_) | (refine IsAt ?_; (with_reducible refine T1 ?_)) | (refine IsJ ?_; first | refine J_seq ?_ | refine J_region ?_ | (refine IsCond ?_; refine K1 rfl ?_)))
  refine JO_l (OL_call [0, 0, 0] rfl rfl rfl (wAdd (bz := bz) 1 h1 h2 hD hs (by constructor <;> omega) ht) rfl) rfl rfl ?_
  rintro _ _ ⟨_, ⟨rfl, rfl⟩, rfl⟩
  repeat' (first | (refine IsO ?_; first | refine JO_nil ?_ | (refine IsBin ?_; first | refine B1 rfl rfl rfl rfl ?_ | refine B3 rfl rfl rfl rfl ?_) | (refine IsLoad ?_; refine L1 rfl rfl rfl rfl ?_) | (refine IsStore ?_; refine S1 rfl rfl rfl rfl rfl rfl rfl (fun _ => ?_)) | refine V1 rfl rfl rfl ?_) | (refine IsAt ?_; (with_reducible refine T1 ?_)) | (refine IsJ ?_; first | refine J_seq ?_ | refine J_region ?_ | (refine IsCond ?_; refine K1 rfl ?_)))
  refine JO_l (OL_call [3, 3, 3, 3, 3, 3, 3, 3, 3] rfl rfl rfl (FwdTop_spec hF) rfl) rfl rfl ?_
  rintro _ _ ⟨_, ⟨rfl, rfl⟩, rfl⟩
  rw [← hS]
  repeat' (first | (refine IsO ?_; first | refine JO_nil ?_ | (refine IsBin ?_; first | refine B1 rfl rfl rfl rfl ?_ | refine B3 rfl rfl rfl rfl ?_) | (refine IsLoad ?_; refine L1 rfl rfl rfl rfl ?_) | (refine IsStore ?_; refine S1 rfl rfl rfl rfl rfl rfl rfl (fun _ => ?_)) | refine V1 rfl rfl rfl ?_) | (refine IsAt ?_; (with_reducible refine T1 ?_)) | (refine IsJ ?_; first | refine J_seq ?_ | refine J_region ?_ | (refine IsCond ?_; refine K1 rfl ?_)))
  refine JO_l0 (OL_store rfl rfl rfl rfl rfl rfl (i := 9) rfl (by rfl)) rfl ?_
  rintro _ _ rfl
  rw [show (S : Int) + (D : Int) * 16 = ((S + D * 16 : Nat) : Int) by omega]
  refine JO_nil ?_
  refine At_then_normal ?_
  refine J_hp (l' := wkR ps c who 96 region wv ov from_ to size refs (S + D * 16 : Nat) word end_ :: sdB ps pf p pw pz wa nW wc pv mv (tv + 1) :: cellsZ pz bz (sts.set 1 (D + 1)) :: fwdL pf p bw bs pm bm bst bf n T w nR ws st ms rs fs) (fun H hl => hl.pick (is := [0, 9, 9, 0, 0, 0, 0, 0, 0, 0, 0, 0]) rfl) ?_
  repeat' (first | (refine IsO ?_; first | refine JO_nil ?_ | (refine IsBin ?_; first | refine B1 rfl rfl rfl rfl ?_ | refine B3 rfl rfl rfl rfl ?_) | (refine IsLoad ?_; refine L1 rfl rfl rfl rfl ?_) | (refine IsStore ?_; refine S1 rfl rfl rfl rfl rfl rfl rfl (fun _ => ?_)) | refine V1 rfl rfl rfl ?_) | (refine IsAt ?_; (with_reducible refine T1 ?_)) | (refine IsJ ?_; first | refine J_seq ?_ | refine J_region ?_ | (refine IsCond ?_; refine K1 rfl ?_)))
  refine J_plan [wkR ps c who 96 region wv ov from_ to size refs (S + D * 16 : Nat) word end_, sdB ps pf p pw pz wa nW wc pv mv (tv + 1)] (fun H hl => hl.pick (is := [0, 0]) rfl) [0, 0, 0, 0, 5, 0, 0, 0, 0, 5, 0, 0, 5, 2, 0, 0, 0, 6] (.q 0 (.q 1 (.q 2 (.q 3 (.q 4 (.q 5 (.q 6 (.q 7 (.q 8 (.q 9 (.q 10 (.q 11 (.q 12 (.l1 13 (.q 14 (.q 15 (.q 16 (.l1 17 .fin)))))))))))))))))) (by kernel_rfl) (by kernel_rfl) ?_
  repeat' (refine IsF ?_; first | (refine JF_fin ?_; refine At_np ?_) | (refine JF_op rfl ?_; refine FsO ?_; first | (refine FsBin ?_; refine FB1 rfl rfl rfl rfl ?_) | (refine FsLoad ?_; refine FL1k rfl rfl rfl rfl rfl ?_) | refine FV1 rfl rfl rfl ?_))
  refine JF_l1 (JFO_l rfl (OL_call [4, 4, 4] rfl rfl rfl heapTop rfl) rfl rfl (.inr ?_) ?_)
  · rintro _ _ ⟨_, ⟨rfl, rfl⟩, rfl⟩ H hl
    exact hl.pick (is := [3, 3]) rfl
  rintro _ _ ⟨_, ⟨rfl, rfl⟩, rfl⟩ _
  repeat' (refine IsF ?_; first | (refine JF_fin ?_; refine At_np ?_) | (refine JF_op rfl ?_; refine FsO ?_; first | (refine FsBin ?_; refine FB1 rfl rfl rfl rfl ?_) | (refine FsLoad ?_; refine FL1k rfl rfl rfl rfl rfl ?_) | refine FV1 rfl rfl rfl ?_))
  rw [show (if (T : Int) < ((S + D * 16 : Nat) : Int) + 16 then (T : Int) else ((S + D * 16 : Nat) : Int) + 16) = ((min (S + D * 16 + 16) T : Nat) : Int) by split <;> omega]
  refine JF_l1 (JFO_l0 rfl (OL_store rfl rfl rfl rfl rfl rfl (i := 3) rfl (by rfl)) rfl (.inl rfl) ?_)
  rintro _ _ rfl _
  repeat' (refine IsF ?_; first | (refine JF_fin ?_; refine At_np ?_) | (refine JF_op rfl ?_; refine FsO ?_; first | (refine FsBin ?_; refine FB1 rfl rfl rfl rfl ?_) | (refine FsLoad ?_; refine FL1k rfl rfl rfl rfl rfl ?_) | refine FV1 rfl rfl rfl ?_))
  repeat' (first | (refine IsO ?_; first | refine JO_nil ?_ | (refine IsBin ?_; first | refine B1 rfl rfl rfl rfl ?_ | refine B3 rfl rfl rfl rfl ?_) | (refine IsLoad ?_; refine L1 rfl rfl rfl rfl ?_) | (refine IsStore ?_; refine S1 rfl rfl rfl rfl rfl rfl rfl (fun _ => ?_)) | refine V1 rfl rfl rfl ?_) | (refine IsAt ?_; (with_reducible refine T1 ?_)) | (refine IsJ ?_; first | refine J_seq ?_ | refine J_region ?_ | (refine IsCond ?_; refine K1 rfl ?_)))
  exact At_end rfl rfl .nil rfl (is := [0, 3, 3, 3, 0, 0, 0, 0, 0, 0, 0, 0]) rfl ⟨rfl, rfl⟩
set_option maxHeartbeats 8000000 in
/-- A part is clear. -/
theorem Clear_end (E : Nat) (h1 : 0 ≤ who) (h2 : who < 64) (hE : sts[2]? = some (E : Int)) (hE2 : E ≤ 1000000000) (he : at_ = end_) (hs : sts.length ≤ 65536) (ht : In64 (tv + 1)) :
    Does Try.prog 97 [ptr c 0] [wkR ps c who fn region wv ov from_ to size refs at_ word end_, sdB ps pf p pw pz wa nW wc pv mv tv, cellsZ pz bz sts]
    (fun u l => u = .tuple #[] ∧ l = [wkR ps c who 87 region wv ov from_ to size refs at_ word end_, sdB ps pf p pw pz wa nW wc pv mv (tv + 1), cellsZ pz bz (sts.set 2 (E + 1))]) := by
  refine Does.of tiok Try.func97 (by kernel_rfl) rfl Try.ntmps97 rfl ?_
  intro W fr
  repeat' (first | (refine IsO ?_; first | refine JO_nil ?_ | (refine IsStore ?_; refine S1 rfl rfl rfl rfl rfl rfl rfl (fun _ => ?_)) | refine V1 rfl rfl rfl ?_) | (refine IsAt ?_; (with_reducible first | refine T1 ?_ | refine T2 ?_)) | (refine IsJ ?_; first | refine J_seq ?_ | refine J_region ?_ | refine J_ret ?_ | (refine IsCond ?_; refine K1 rfl ?_)))
  refine J_draw [0, 0, 0, 1, 0, 0, 0, 1, 0] (List.range 9) (by kernel_rfl) (by kernel_rfl) ?_
  repeat' (refine IsX ?_; first | (refine JX_nil ?_; refine At_np ?_) | (refine JX_op rfl ?_; refine XsO ?_; first | (refine XsLoad ?_; refine XL1 rfl rfl rfl rfl rfl ?_) | refine XV1 rfl rfl rfl rfl ?_))
  repeat' (first | (refine IsO ?_; first | refine JO_nil ?_ | (refine IsStore ?_; refine S1 rfl rfl rfl rfl rfl rfl rfl (fun _ => ?_)) | refine V1 rfl rfl rfl ?_) | (refine IsAt ?_; (with_reducible first | refine T1 ?_ | refine T2 ?_)) | (refine IsJ ?_; first | refine J_seq ?_ | refine J_region ?_ | refine J_ret ?_ | (refine IsCond ?_; refine K1 rfl ?_)))
  refine JO_l (OL_call [0, 0, 0] rfl rfl rfl (wAdd (bz := bz) 2 h1 h2 hE hs (by constructor <;> omega) ht) rfl) rfl rfl ?_
  rintro _ _ ⟨_, ⟨rfl, rfl⟩, rfl⟩
  repeat' (first | (refine IsO ?_; first | refine JO_nil ?_ | (refine IsStore ?_; refine S1 rfl rfl rfl rfl rfl rfl rfl (fun _ => ?_)) | refine V1 rfl rfl rfl ?_) | (refine IsAt ?_; (with_reducible first | refine T1 ?_ | refine T2 ?_)) | (refine IsJ ?_; first | refine J_seq ?_ | refine J_region ?_ | refine J_ret ?_ | (refine IsCond ?_; refine K1 rfl ?_)))
  exact At_ret rfl rfl .nil rfl (is := [0, 0, 0]) rfl ⟨rfl, rfl⟩
set_option maxHeartbeats 8000000 in
/-- A word is cleared. -/
theorem Clear_next (ai : Nat) (h1 : 0 ≤ who) (h2 : who < 64) (he : (ai : Int) ≠ end_) (hp : ai < wds.length) (hs : wds.length ≤ 65536) (ht : In64 (tv + 1)) :
    Does Try.prog 97 [ptr c 0] [wkR ps c who fn region wv ov from_ to size refs ai word end_, sdB ps pf p pw pz wa nW wc pv mv tv, cellsZ pw bw2 wds]
    (fun u l => u = .tuple #[] ∧ l = [wkR ps c who fn region wv ov from_ to size refs ((ai : Int) + 1) word end_, sdB ps pf p pw pz wa nW wc pv mv (tv + 1), cellsZ pw bw2 (wds.set ai 0)]) := by
  obtain ⟨t1, t2⟩ := ht
  refine Does.of tiok Try.func97 (by kernel_rfl) rfl Try.ntmps97 rfl ?_
  intro W fr
  repeat' (first | (refine IsO ?_; first | refine JO_nil ?_ | (refine IsBin ?_; refine B1 rfl rfl rfl rfl ?_) | (refine IsLoad ?_; refine L1 rfl rfl rfl rfl ?_) | (refine IsStore ?_; refine S1 rfl rfl rfl rfl rfl rfl rfl (fun _ => ?_)) | refine V1 rfl rfl rfl ?_) | (refine IsAt ?_; (with_reducible refine T1 ?_)) | (refine IsJ ?_; first | refine J_seq ?_ | refine J_region ?_ | refine J_skip ?_ | (refine IsCond ?_; refine K2 rfl ?_)))
  refine J_draw [0, 0, 0, 1, 0, 0, 0, 1, 0] (List.range 9) (by kernel_rfl) (by kernel_rfl) ?_
  repeat' (refine IsX ?_; first | (refine JX_nil ?_; refine At_np ?_) | (refine JX_op rfl ?_; refine XsO ?_; first | (refine XsLoad ?_; refine XL1 rfl rfl rfl rfl rfl ?_) | refine XV1 rfl rfl rfl rfl ?_))
  repeat' (first | (refine IsO ?_; first | refine JO_nil ?_ | (refine IsBin ?_; refine B1 rfl rfl rfl rfl ?_) | (refine IsLoad ?_; refine L1 rfl rfl rfl rfl ?_) | (refine IsStore ?_; refine S1 rfl rfl rfl rfl rfl rfl rfl (fun _ => ?_)) | refine V1 rfl rfl rfl ?_) | (refine IsAt ?_; (with_reducible refine T1 ?_)) | (refine IsJ ?_; first | refine J_seq ?_ | refine J_region ?_ | refine J_skip ?_ | (refine IsCond ?_; refine K2 rfl ?_)))
  refine J_draw [0, 0, 0, 1, 0, 0, 1, 0, 0, 0, 1, 0, 0, 0, 1, 2] (List.range 16) (by kernel_rfl) (by kernel_rfl) ?_
  repeat' (refine IsX ?_; first | (refine JX_nil ?_; refine At_np ?_) | (refine JX_op rfl ?_; refine XsO ?_; first | (refine XsLoad ?_; refine XL1 rfl rfl rfl rfl rfl ?_) | refine XV1 rfl rfl rfl rfl ?_))
  refine JX_l rfl rfl (OL_call [2] rfl rfl rfl (Store_z (p := pw) (bw := bw2) (ws := wds) who 0 ai h1 h2 hp hs) rfl) rfl rfl ?_
  rintro _ _ ⟨_, ⟨rfl, rfl⟩, rfl⟩
  repeat' (refine IsX ?_; first | (refine JX_nil ?_; refine At_np ?_) | (refine JX_op rfl ?_; refine XsO ?_; first | (refine XsLoad ?_; refine XL1 rfl rfl rfl rfl rfl ?_) | refine XV1 rfl rfl rfl rfl ?_))
  repeat' (first | (refine IsO ?_; first | refine JO_nil ?_ | (refine IsBin ?_; refine B1 rfl rfl rfl rfl ?_) | (refine IsLoad ?_; refine L1 rfl rfl rfl rfl ?_) | (refine IsStore ?_; refine S1 rfl rfl rfl rfl rfl rfl rfl (fun _ => ?_)) | refine V1 rfl rfl rfl ?_) | (refine IsAt ?_; (with_reducible refine T1 ?_)) | (refine IsJ ?_; first | refine J_seq ?_ | refine J_region ?_ | refine J_skip ?_ | (refine IsCond ?_; refine K2 rfl ?_)))
  exact At_end rfl rfl .nil rfl (is := [0, 0, 0]) rfl ⟨rfl, rfl⟩
set_option maxHeartbeats 8000000 in
/-- It waits for a region. -/
theorem Ready_wait (r : Nat) (wl : List Int) (xa : Option Addr) (xc : Nat) {y : Int} (h1 : 0 ≤ who) (h2 : who < 64) (hy : sts[3 + r]? = some y) (hs : sts.length ≤ 65536) (hl : wl.length ≤ 65536) (ht : In64 (tv + 1)) :
    Does Try.prog 69 [ptr c 0] [wkR ps c who fn region (.slice xa (wl.length + 1) xc) ov from_ to size refs at_ word end_, rowz 3 1 xa (wl.length + 1) xc (.int .i64 (r : Int) :: intsV wl), sdB ps pf p pw pz wa nW wc pv mv tv, cellsZ pz bz sts]
    (fun u l => u = .tuple #[] ∧ ((0 < y ∧ ∃ (xa' : Option Addr) (xc' : Nat), l = [wkR ps c who fn region (.slice xa' wl.length xc') ov from_ to size refs at_ word end_, rowz 3 1 xa' wl.length xc' (intsV wl), sdB ps pf p pw pz wa nW wc pv mv (tv + 1), cellsZ pz bz sts]) ∨
      (¬ 0 < y ∧ l = [wkR ps c who fn region (.slice xa (wl.length + 1) xc) ov from_ to size refs at_ word end_, rowz 3 1 xa (wl.length + 1) xc (.int .i64 (r : Int) :: intsV wl), sdB ps pf p pw pz wa nW wc pv mv (tv + 1), cellsZ pz bz sts]))) := by
  have hrl := (List.getElem?_eq_some_iff.1 hy).1
  refine Does.of tiok Try.func69 (by kernel_rfl) rfl Try.ntmps69 rfl ?_
  intro W fr
  refine J_rowzf (i := 1) rfl ?_
  rintro ⟨hcl, hnn, hcc⟩
  have hRd : Reads (rowz 3 1 xa (wl.length + 1) xc (.int .i64 (r : Int) :: intsV wl)) 1 (wl.length + 1) xa xc (.int .i64 (r : Int) :: intsV wl) := Reads.rowz hcl hnn
  refine J_fact _ (fun w hs => hRd.some (by omega) hs (by simp)) ?_
  rintro ⟨b, of, rfl⟩
  repeat' (first | (refine IsO ?_; first | refine JO_nil ?_ | (refine IsBin ?_; refine B1 rfl rfl rfl rfl ?_) | (refine IsLoad ?_; refine L1 rfl rfl rfl rfl ?_) | (refine IsStore ?_; refine S1 rfl rfl rfl rfl rfl rfl rfl (fun _ => ?_)) | refine V1 rfl rfl rfl ?_) | (refine IsAt ?_; (with_reducible refine T1 ?_)) | (refine IsJ ?_; first | refine J_seq ?_ | refine J_region ?_ | refine J_skip ?_ | (refine IsCond ?_; first | refine J_cond_f rfl ?_ | refine K1 rfl ?_ | refine K2 rfl ?_)))
  refine JO_val (OV_idx (off := of + 0) rfl rfl rfl rfl (by omega) (by omega) (by simp)) rfl rfl ?_
  refine JO_q (OQ_read (i := 0) (v := .int .i64 r) hRd (by simp) rfl rfl (by omega) rfl) rfl rfl ?_
  repeat' (first | (refine IsO ?_; first | refine JO_nil ?_ | (refine IsBin ?_; refine B1 rfl rfl rfl rfl ?_) | (refine IsLoad ?_; refine L1 rfl rfl rfl rfl ?_) | (refine IsStore ?_; refine S1 rfl rfl rfl rfl rfl rfl rfl (fun _ => ?_)) | refine V1 rfl rfl rfl ?_) | (refine IsAt ?_; (with_reducible refine T1 ?_)) | (refine IsJ ?_; first | refine J_seq ?_ | refine J_region ?_ | refine J_skip ?_ | (refine IsCond ?_; first | refine J_cond_f rfl ?_ | refine K1 rfl ?_ | refine K2 rfl ?_)))
  rw [show (3 : Int) + (r : Int) = ((3 + r : Nat) : Int) by omega]
  refine JO_l (OL_call [0, 1, 1] rfl rfl rfl (wLoad (bz := bz) (3 + r) h1 h2 hy hs ht) rfl) rfl rfl ?_
  rintro _ _ ⟨_, ⟨rfl, rfl⟩, rfl⟩
  by_cases hy0 : 0 < y
  · repeat' (first | (refine IsO ?_; first | refine JO_nil ?_ | (refine IsBin ?_; refine B1 rfl rfl rfl rfl ?_) | (refine IsLoad ?_; refine L1 rfl rfl rfl rfl ?_) | (refine IsStore ?_; refine S1 rfl rfl rfl rfl rfl rfl rfl (fun _ => ?_)) | refine V1 rfl rfl rfl ?_) | (refine IsAt ?_; (with_reducible refine T1 ?_)) | (refine IsJ ?_; first | refine J_seq ?_ | refine J_region ?_ | refine J_skip ?_ | (refine IsCond ?_; first | refine J_cond_f rfl ?_ | refine K1 rfl ?_ | refine K2 rfl ?_)))
    refine JO_val (OV_slice (cap := xc) (len := wl.length + 1) (m := 1) (n := ((wl.length + 1 : Nat) : Int)) (p' := if xc = 1 then some ⟨b, of, none⟩ else some ⟨b, of + 1, none⟩) rfl rfl rfl rfl rfl rfl rfl (by omega) (by omega) (by omega) (by simp [addr_add])) rfl rfl ?_
    rw [show (((wl.length + 1 : Nat) : Int)).toNat - (1 : Int).toNat = wl.length by simp, show xc - (1 : Int).toNat = xc - 1 by simp]
    repeat' (first | (refine IsO ?_; first | refine JO_nil ?_ | (refine IsBin ?_; refine B1 rfl rfl rfl rfl ?_) | (refine IsLoad ?_; refine L1 rfl rfl rfl rfl ?_) | (refine IsStore ?_; refine S1 rfl rfl rfl rfl rfl rfl rfl (fun _ => ?_)) | refine V1 rfl rfl rfl ?_) | (refine IsAt ?_; (with_reducible refine T1 ?_)) | (refine IsJ ?_; first | refine J_seq ?_ | refine J_region ?_ | refine J_skip ?_ | (refine IsCond ?_; first | refine J_cond_f rfl ?_ | refine K1 rfl ?_ | refine K2 rfl ?_)))
    refine At_end' rfl rfl .nil rfl (fun H hl => ?_) ⟨rfl, .inl ⟨hy0, (if xc = 1 then some ⟨b, of, none⟩ else some ⟨b, of + 1, none⟩), xc - 1, rfl⟩⟩
    have h1 := rowz_tail (hl.pick (l := _) (is := [3, 0, 0, 0]) rfl)
    exact h1.pick (is := [1, 0, 0, 0]) rfl
  · repeat' (first | (refine IsO ?_; first | refine JO_nil ?_ | (refine IsBin ?_; refine B1 rfl rfl rfl rfl ?_) | (refine IsLoad ?_; refine L1 rfl rfl rfl rfl ?_) | (refine IsStore ?_; refine S1 rfl rfl rfl rfl rfl rfl rfl (fun _ => ?_)) | refine V1 rfl rfl rfl ?_) | (refine IsAt ?_; (with_reducible refine T1 ?_)) | (refine IsJ ?_; first | refine J_seq ?_ | refine J_region ?_ | refine J_skip ?_ | (refine IsCond ?_; first | refine J_cond_f rfl ?_ | refine K1 rfl ?_ | refine K2 rfl ?_)))
    exact At_end rfl rfl .nil rfl (is := [0, 2, 0, 0]) rfl ⟨rfl, .inr ⟨hy0, rfl⟩⟩
end raw
end Go.Proofs.Ytahfnbpbdnmggaa
/-
  Our own: a worker's step, whichever it is.
-/
set_option linter.unusedVariables false
set_option linter.unusedSimpArgs false
namespace Go.Proofs.Ytahfnbpbdnmggaa
open Go.Sep
section ops
variable {ps pf p bw bs pm bm bst bf n T w nR pw bw2 pz bz nW wc : Nat} {wa : Option Addr} {mv tv : Int} {ws : List Int} {st : List Bool} {os : List RO} {ms : List Nat} {rs : List RG} {fs wds sts : List Int} {xs : List WX} {C D j : Nat} {x : WX} {Q A Z : Nat → Nat}
abbrev shZ (ps pf p bw bs pm bm bst bf n T w nR pw bw2 pz bz nW wc : Nat) (wa : Option Addr) (pv mv tv : Int) (ws : List Int) (st : List Bool) (ms : List Nat) (rs : List RG) (fs sts wds : List Int) : List HP :=
  sdB ps pf p pw pz wa nW wc pv mv tv :: cellsZ pz bz sts :: cellsZ pw bw2 wds :: fwdL pf p bw bs pm bm bst bf n T w nR ws st ms rs fs
/-- The facts of a sliding. -/
structure SF (n T w nR : Nat) (ws : List Int) (st : List Bool) (os : List RO) (ms : List Nat) (rs : List RG) (fs : List Int) : Prop where
  h : HT n T ws st
  hc : Ch ws 0 os T
  hM : MI n ms
  hF : RF w nR (lvs ms os) rs fs
  hR : nR = numR w T
  hr : RightP ms os
  n6 : n ≤ 60000
theorem SF.hsz (F : SF n T w nR ws st os ms rs fs) : szL (lvs ms os) ≤ T ∧ (lvs ms os).length ≤ T := by
  have h1 := F.hc.sz
  have h2 : szL (lvs ms os) ≤ szL os := szL_filter
  have h3 := len_le_sz (L := lvs ms os)
  omega
theorem SF.nRT (F : SF n T w nR ws st os ms rs fs) : nR ≤ T := by rw [F.hR]; exact numR_le F.hF.w1
def StepPost (ps pf p bw bs pm bm bst bf n T w nR pw bw2 pz bz nW wc : Nat) (wa : Option Addr) (tv : Int) (ws : List Int) (st : List Bool) (os : List RO) (ms : List Nat) (rs : List RG) (fs sts : List Int) (xs : List WX) (C D j : Nat) (x : WX) (v : Value) (l : List HP) : Prop :=
  ∃ (x' : WX) (sts' wds' : List Int) (mv' tv' : Int) (C' D' : Nat), StepR n T w nR ws os ms xs sts tv C D j x x' sts' wds' mv' tv' C' D' ∧ v = .tuple #[] ∧
    l = wkL ps x' ++ shZ ps pf p bw bs pm bm bst bf n T w nR pw bw2 pz bz nW wc wa (partsI T (szL (lvs ms os)) : Nat) mv' tv' ws st ms rs fs sts' wds'
theorem Step_claim (F : SF n T w nR ws st os ms rs fs) (h : SI n T w nR ws os ms xs sts wds mv C D Q A Z) (hj : xs[j]? = some x) (hl : xs.length ≤ 64) (ht : In64 (tv + 1)) (hP : C + D + PhiI T w nR ws os ms xs C D ≤ 1000000000) (hf : x.fn = fnC) :
    Does Try.prog fnC [ptr x.c 0] (wkL ps x ++ shZ ps pf p bw bs pm bm bst bf n T w nR pw bw2 pz bz nW wc wa (partsI T (szL (lvs ms os)) : Nat) mv tv ws st ms rs fs sts wds) (StepPost ps pf p bw bs pm bm bst bf n T w nR pw bw2 pz bz nW wc wa tv ws st os ms rs fs sts xs C D j x) := by
  have hjl := (List.getElem?_eq_some_iff.1 hj).1
  have hw := h.who j x hj
  have hsl := h.sl
  have hnR := F.nRT
  have htn := F.h.tn
  have hn6 := F.n6
  have hCl := Claim_spec (ps := ps) (pf := pf) (p := p) (bw := bw) (bs := bs) (pm := pm) (bm := bm) (bst := bst) (bf := bf) (pw := pw) (pz := pz) (bz := bz) (nW := nW) (wc := wc) (wa := wa) (pv := (partsI T (szL (lvs ms os)) : Nat)) (mv := mv) (tv := tv) (x := x) (sts := sts) F.h F.hc F.hF C (by omega) (by omega) h.s0 (by omega) (by omega) ht
  refine (hCl.wide (is := [0, 0, 0, 0, 0, 1, 1, 1, 1, 1, 1, 1, 1, 1]) rfl).post ?_
  rintro v l ⟨_, ⟨x', hx', rfl, rfl⟩, rfl⟩
  refine ⟨_, ⟨x', sts.set 0 (C + 1), wds, mv, tv + 1, C + 1, D, ?_, rfl, rfl⟩, fun H hl => hl.pick (is := [0, 0, 0, 0, 0, 9, 0, 0, 0, 0, 0, 0, 0, 0, 0]) rfl⟩
  rcases hx' with ⟨hC, rfl⟩ | ⟨hC, wa', wc', oa', oc', rfl⟩
  · exact .lt (h.claim_end hj hf hC) (.inr rfl) rfl (Phi_claim_end hj hf hC rfl rfl) (by omega)
  · exact .lt (h.claim_next hj hf hC wa' oa' wc' oc') (.inr rfl) rfl (Phi_claim_next F.hc hj hf hC rfl ahL_len rfl) (by omega)
theorem Step_object (F : SF n T w nR ws st os ms rs fs) (h : SI n T w nR ws os ms xs sts wds mv C D Q A Z) (hj : xs[j]? = some x) (hl : xs.length ≤ 64) (ht : In64 (tv + 1)) (hf : x.fn = fnO) (f : Nat) :
    Does Try.prog fnO [ptr x.c 0] (wkL ps { x with fn := f } ++ shZ ps pf p bw bs pm bm bst bf n T w nR pw bw2 pz bz nW wc wa (partsI T (szL (lvs ms os)) : Nat) mv tv ws st ms rs fs sts wds) (StepPost ps pf p bw bs pm bm bst bf n T w nR pw bw2 pz bz nW wc wa tv ws st os ms rs fs sts xs C D j x) := by
  have hjl := (List.getElem?_eq_some_iff.1 hj).1
  have hw := h.who j x hj
  have hsl := h.sl
  have hnR := F.nRT
  have htn := F.h.tn
  have hn6 := F.n6
  have hsz := F.hsz
  obtain ⟨k, hr, hk, hC, h0, hQ, hA, hol, hd⟩ := (h.wk j x hj).object_inv hf
  have hoL : x.ol.length ≤ T := by
    have h1 := F.hF.len
    have h2 : (olI w k (Q k) (lvs ms os)).length ≤ (lvs ms os).length := by
      unfold olI
      rw [List.length_map, List.length_drop]
      have := List.length_filter_le (fun o : RO => decide (o.i / w = k)) (lvs ms os)
      unfold inR
      omega
    rw [hol]
    omega
  have hcase : x.ol = [] ∨ ∃ y rest, x.ol = y :: rest := by cases x.ol <;> simp
  rcases hcase with ho | ⟨y, rest, ho⟩
  · have e : wkL ps { x with fn := f } = [wkR ps x.c x.who f x.region (.slice x.wa x.wl.length x.wc) (.slice x.oa 0 x.oc) x.from_ x.to x.size x.refs x.at_ x.word x.end_, rowz 3 1 x.wa x.wl.length x.wc (intsV x.wl), rowz 3 1 x.oa 0 x.oc []] := by
      unfold wkL wkC
      rw [ho]; rfl
    rw [e]
    refine ((Object_end0 (ps := ps) (pf := pf) (p := p) (pw := pw) (pz := pz) (bz := bz) (nW := nW) (wc := wc) (wa := wa) (pv := (partsI T (szL (lvs ms os)) : Nat)) (mv := mv) (tv := tv) (sts := sts) (wv := .slice x.wa x.wl.length x.wc) (fn := f) (from_ := x.from_) (to := x.to) (size := x.size) (refs := x.refs) (at_ := x.at_) (word := x.word) (end_ := x.end_) (c := x.c) (who := x.who) (region := x.region) k x.oa x.oc (by omega) (by omega) hr (by omega) (by omega) ht).wide (is := [0, 2, 2]) rfl).post ?_
    rintro v l ⟨_, ⟨rfl, rfl⟩, rfl⟩
    refine ⟨_, ⟨{ x with fn := fnC }, sts.set (3 + k) 1, wds, mv, tv + 1, C, D, .lt (h.object_end hj hf hr ho) (.inr rfl) rfl (Phi_lt hj ?_) (by omega), rfl, rfl⟩, fun H hl => ?_⟩
    · rw [phi_O hf]
      exact Nat.lt_of_le_of_lt (Nat.le_of_eq (phi_C rfl)) (by omega)
    · have e2 : wkL ps { x with fn := fnC } = [wkR ps x.c x.who fnC x.region (.slice x.wa x.wl.length x.wc) (.slice x.oa 0 x.oc) x.from_ x.to x.size x.refs x.at_ x.word x.end_, rowz 3 1 x.wa x.wl.length x.wc (intsV x.wl), rowz 3 1 x.oa 0 x.oc []] := by
        unfold wkL wkC
        rw [ho]; rfl
      rw [e2]
      exact hl.pick (is := [0, 2, 2, 0, 0, 0, 0, 0, 0, 0, 0, 0, 0, 0, 0]) rfl
  · rw [ho] at hoL
    obtain ⟨i, o, hi, hlv, rfl, hS⟩ := h.object_next F.hc hj hf hr ho
    have e : wkL ps { x with fn := f } = [wkR ps x.c x.who f x.region (.slice x.wa x.wl.length x.wc) (.slice x.oa (rest.length + 1) x.oc) x.from_ x.to x.size x.refs x.at_ x.word x.end_, rowz 3 1 x.wa x.wl.length x.wc (intsV x.wl), rowz 3 1 x.oa (rest.length + 1) x.oc (.int .i64 (o.i : Int) :: intsV rest)] := by
      unfold wkL wkC
      rw [ho]; rfl
    rw [e]
    refine ((Object_next0 (ps := ps) (pf := pf) (p := p) (bw := bw) (bs := bs) (pm := pm) (bm := bm) (bst := bst) (bf := bf) (pw := pw) (pz := pz) (nW := nW) (wc := wc) (wa := wa) (pv := (partsI T (szL (lvs ms os)) : Nat)) (mv := mv) (tv := tv) (wv := .slice x.wa x.wl.length x.wc) (fn := f) (from_ := x.from_) (to := x.to) (size := x.size) (refs := x.refs) (at_ := x.at_) (word := x.word) (end_ := x.end_) (c := x.c) (who := x.who) (region := x.region) F.h F.hc F.hM F.hF F.hR hi hlv (rest := rest) x.oa x.oc (by simp only [List.length_cons] at hoL; omega)).wide (is := [0, 1, 1, 3, 3, 3, 3, 3, 3, 3, 3, 3]) rfl).post ?_
    rintro v l ⟨_, ⟨oa', oc', rfl, rfl⟩, rfl⟩
    refine ⟨_, ⟨{ x with fn := fnF, oa := oa', ol := rest, oc := oc', from_ := o.i, to := (goI ms os i : Nat), size := 1 + (o.ws.length : Int), refs := o.p, at_ := 0 }, sts, wds, mv, tv, C, D, .lt (hS oa' oc') (.inl rfl) rfl (Phi_lt hj ?_) (by omega), rfl, rfl⟩, fun H hl => hl.pick (is := [0, 11, 0, 0, 9, 9, 0, 0, 0, 0, 0, 0, 0, 0, 0]) rfl⟩
    rw [phi_O hf, ho]
    refine Nat.lt_of_le_of_lt (Nat.le_of_eq (phi_F rfl)) ?_
    have hwz := wsz_obj F.hc hi
    show rest.length + 2 * szA ws rest + 2 * (1 + (o.ws.length : Int) - 0).toNat + 1 + (nR + 5) < rest.length + 1 + 2 * (wszI ws o.i + szA ws rest) + 1 + (nR + 5)
    omega
theorem Step_fetch (F : SF n T w nR ws st os ms rs fs) (h : SI n T w nR ws os ms xs sts wds mv C D Q A Z) (hj : xs[j]? = some x) (hl : xs.length ≤ 64) (ht : In64 (tv + 1)) (hf : x.fn = fnF) :
    Does Try.prog fnF [ptr x.c 0] (wkL ps x ++ shZ ps pf p bw bs pm bm bst bf n T w nR pw bw2 pz bz nW wc wa (partsI T (szL (lvs ms os)) : Nat) mv tv ws st ms rs fs sts wds) (StepPost ps pf p bw bs pm bm bst bf n T w nR pw bw2 pz bz nW wc wa tv ws st os ms rs fs sts xs C D j x) := by
  have hjl := (List.getElem?_eq_some_iff.1 hj).1
  have hw := h.who j x hj
  have hsl := h.sl
  have hwl := h.wl
  have hnR := F.nRT
  have htn := F.h.tn
  have hn6 := F.n6
  have hsz := F.hsz
  obtain ⟨k, hr, hk, hC, h0, hol, hd, o, i, hcu⟩ := (h.wk j x hj).fetch_inv hf
  have hin := F.hc.o_lt hcu.hj
  have hlt := hcu.lt
  obtain ⟨v, hv⟩ : ∃ v, ws[o.i + A k]? = some v := ⟨ws[o.i + A k]'(by rw [F.h.wl]; omega), List.getElem?_eq_getElem _⟩
  have hv2 := (h.fetched F.hc hk h0 hcu).trans hv
  have e : wkL ps x = [wkR ps x.c x.who x.fn x.region (.slice x.wa x.wl.length x.wc) (.slice x.oa x.ol.length x.oc) (o.i : Nat) x.to x.size x.refs (A k : Nat) x.word x.end_, rowz 3 1 x.wa x.wl.length x.wc (intsV x.wl), rowz 3 1 x.oa x.ol.length x.oc (intsV x.ol)] := by
    unfold wkL wkC
    rw [hcu.fr, hcu.at_]
  rw [e]
  refine ((Fetch_spec (ps := ps) (pf := pf) (p := p) (pw := pw) (pz := pz) (nW := nW) (wc := wc) (wa := wa) (pv := (partsI T (szL (lvs ms os)) : Nat)) (mv := mv) (tv := tv) (c := x.c) (who := x.who) (fn := x.fn) (region := x.region) (wv := .slice x.wa x.wl.length x.wc) (ov := .slice x.oa x.ol.length x.oc) (bw2 := bw2) (to := x.to) (size := x.size) (refs := x.refs) (word := x.word) (end_ := x.end_) o.i (A k) (by omega) (by omega) hv2 (by omega) ht).wide (is := [0, 2, 3]) rfl).post ?_
  rintro u l ⟨_, ⟨rfl, rfl⟩, rfl⟩
  refine ⟨_, ⟨{ x with word := v, fn := fnL }, sts, wds, mv, tv + 1, C, D, .lt (h.fetch hj hf hr hcu hv) (.inr rfl) rfl (Phi_lt hj ?_) (by omega), rfl, rfl⟩, fun H hl => ?_⟩
  · rw [phi_F hf]
    exact Nat.lt_of_le_of_lt (Nat.le_of_eq (phi_L rfl)) (by show x.ol.length + 2 * szA ws x.ol + 2 * (x.size - x.at_).toNat + (nR + 5) < _; omega)
  · have e2 : wkL ps { x with word := v, fn := fnL } = [wkR ps x.c x.who fnL x.region (.slice x.wa x.wl.length x.wc) (.slice x.oa x.ol.length x.oc) (o.i : Nat) x.to x.size x.refs (A k : Nat) v x.end_, rowz 3 1 x.wa x.wl.length x.wc (intsV x.wl), rowz 3 1 x.oa x.ol.length x.oc (intsV x.ol)] := by
      unfold wkL wkC
      rw [hcu.fr, hcu.at_]
    rw [e2]
    exact hl.pick (is := [0, 2, 2, 0, 1, 0, 0, 0, 0, 0, 0, 0, 0, 0, 0]) rfl
theorem Step_lay (F : SF n T w nR ws st os ms rs fs) (h : SI n T w nR ws os ms xs sts wds mv C D Q A Z) (hj : xs[j]? = some x) (hl : xs.length ≤ 64) (ht : In64 (tv + 1)) (hf : x.fn = fnL) :
    Does Try.prog fnL [ptr x.c 0] (wkL ps x ++ shZ ps pf p bw bs pm bm bst bf n T w nR pw bw2 pz bz nW wc wa (partsI T (szL (lvs ms os)) : Nat) mv tv ws st ms rs fs sts wds) (StepPost ps pf p bw bs pm bm bst bf n T w nR pw bw2 pz bz nW wc wa tv ws st os ms rs fs sts xs C D j x) := by
  have hjl := (List.getElem?_eq_some_iff.1 hj).1
  have hw := h.who j x hj
  have hsl := h.sl
  have hwl := h.wl
  have hnR := F.nRT
  have htn := F.h.tn
  have hn6 := F.n6
  have hsz := F.hsz
  obtain ⟨k, hr, hk, hC, h0, hol, hd, o, i, hcu, hword⟩ := (h.wk j x hj).lay_inv hf
  have hin := F.hc.o_lt hcu.hj
  have hlt := hcu.lt
  have hgl := goI_le ms F.hc hcu.hj
  have hmv := h.mv_le F.hc F.hR F.hF.w1
  have hat := (F.hc.at hcu.hj).2
  have hmm : In64 (mv + 1) := ⟨by omega, by omega⟩
  obtain ⟨v, hv⟩ : ∃ v, (nwO ms os o)[A k]? = some v := ⟨(nwO ms os o)[A k]'(by rw [nwO_len]; omega), List.getElem?_eq_getElem _⟩
  have hz : (0 < A k ∧ ((A k : Nat) : Int) ≤ o.p ∧ ∃ e : Int, Does Try.prog 47 [ptr pf 0, .int .i64 x.word] (fwdL pf p bw bs pm bm bst bf n T w nR ws st ms rs fs) (fun u l => u = .tuple #[.int .i64 v, .int .i64 e] ∧ l = fwdL pf p bw bs pm bm bst bf n T w nR ws st ms rs fs)) ∨ (¬ (0 < A k ∧ ((A k : Nat) : Int) ≤ o.p) ∧ v = x.word) := by
    by_cases ha : 0 < A k
    · obtain ⟨t, ht2⟩ : ∃ t, A k = t + 1 := ⟨A k - 1, by omega⟩
      have hwt : o.ws[t]? = some x.word := by
        rw [← hat.2.2.2.1 t (by omega), ← hword, ht2]
        congr 1
        omega
      have hv3 : v = if (t : Int) < o.p then fwI ms os x.word else x.word := by
        rw [ht2] at hv
        have h1 : (fwL ms os o)[t]? = some v := hv
        rw [fwL_at hwt] at h1
        injection h1 with h1
        exact h1.symm
      by_cases hp : (t : Int) < o.p
      · left
        rw [if_pos hp] at hv3
        refine ⟨ha, by omega, ?_⟩
        rcases F.hr i o hcu.hj hcu.hl t x.word hp hwt with h0 | ⟨i2, o2, hi2, hl2, he⟩
        · rw [hv3, h0, fwI_zero]
          exact ⟨0, Word_zero⟩
        · have hw2 : x.word = (o2.i : Int) + 1 := by omega
          rw [hv3, hw2, fwI_obj F.hc hi2]
          exact ⟨0, Word_yes F.h F.hc F.hM F.hF F.hR hi2 hl2⟩
      · right
        rw [if_neg hp] at hv3
        exact ⟨by omega, hv3⟩
    · right
      refine ⟨fun e => ha e.1, ?_⟩
      have h00 : A k = 0 := by omega
      rw [h00] at hv hword
      have h1 : some (packI o.k o.ws.length o.p) = some v := hv
      rw [Nat.add_zero, hat.2.2.1, h1] at hword
      injection hword
  obtain ⟨Q', A', hS⟩ := h.lay F.hc F.h.wl F.h.tn hj hf hr hcu hv
  have e : wkL ps x = [wkR ps x.c x.who x.fn x.region (.slice x.wa x.wl.length x.wc) (.slice x.oa x.ol.length x.oc) x.from_ (goI ms os i : Nat) x.size o.p (A k : Nat) x.word x.end_, rowz 3 1 x.wa x.wl.length x.wc (intsV x.wl), rowz 3 1 x.oa x.ol.length x.oc (intsV x.ol)] := by
    unfold wkL wkC
    rw [hcu.to, hcu.at_, hcu.rf]
  rw [e]
  refine ((Lay_spec (ps := ps) (pf := pf) (p := p) (pw := pw) (pz := pz) (nW := nW) (wc := wc) (wa := wa) (pv := (partsI T (szL (lvs ms os)) : Nat)) (mv := mv) (tv := tv) (c := x.c) (who := x.who) (fn := x.fn) (region := x.region) (wv := .slice x.wa x.wl.length x.wc) (ov := .slice x.oa x.ol.length x.oc) (bw2 := bw2) (bw := bw) (bs := bs) (pm := pm) (bm := bm) (bst := bst) (bf := bf) (from_ := x.from_) (size := x.size) (refs := o.p) (word := x.word) (end_ := x.end_) (goI ms os i) (A k) v (by omega) (by omega) hz (by omega) (by omega) ht hmm).wide (is := [0, 2, 3, 3, 3, 3, 3, 3, 3, 3, 3, 3]) rfl).post ?_
  rintro u l ⟨_, ⟨rfl, rfl⟩, rfl⟩
  refine ⟨_, ⟨{ x with word := v, at_ := (A k : Int) + 1, fn := if (A k : Int) + 1 = x.size then fnO else fnF }, sts, wds.set (goI ms os i + A k) v, if (A k : Int) + 1 = x.size then mv + 1 else mv, tv + 1, C, D, .lt hS (.inr rfl) rfl (Phi_lt hj ?_) (by omega), rfl, rfl⟩, fun H hl => ?_⟩
  · have hsz2 := hcu.sz
    have hat2 := hcu.at_
    rw [phi_L hf]
    by_cases hlast : (A k : Int) + 1 = x.size
    · refine Nat.lt_of_le_of_lt (Nat.le_of_eq (phi_O (by show (if _ then fnO else fnF) = fnO; rw [if_pos hlast]))) ?_
      show x.ol.length + 2 * szA ws x.ol + 1 + (nR + 5) < _
      omega
    · refine Nat.lt_of_le_of_lt (Nat.le_of_eq (phi_F (by show (if _ then fnO else fnF) = fnF; rw [if_neg hlast]))) ?_
      show x.ol.length + 2 * szA ws x.ol + 2 * (x.size - ((A k : Int) + 1)).toNat + 1 + (nR + 5) < _
      omega
  · have e2 : wkL ps { x with word := v, at_ := (A k : Int) + 1, fn := if (A k : Int) + 1 = x.size then fnO else fnF } = [wkR ps x.c x.who (if (A k : Int) + 1 = x.size then fnO else fnF) x.region (.slice x.wa x.wl.length x.wc) (.slice x.oa x.ol.length x.oc) x.from_ (goI ms os i : Nat) x.size o.p ((A k : Int) + 1) v x.end_, rowz 3 1 x.wa x.wl.length x.wc (intsV x.wl), rowz 3 1 x.oa x.ol.length x.oc (intsV x.ol)] := by
      unfold wkL wkC
      rw [hcu.to, hcu.rf]
    rw [e2]
    exact hl.pick (is := [0, 11, 11, 0, 10, 0, 0, 0, 0, 0, 0, 0, 0, 0, 0]) rfl
end ops
end Go.Proofs.Ytahfnbpbdnmggaa
/-
  Our own: a worker's step, whichever it is, continued; a step of a sliding.
-/
set_option linter.unusedVariables false
set_option linter.unusedSimpArgs false
namespace Go.Proofs.Ytahfnbpbdnmggaa
open Go.Sep
section ops
variable {ps pf p bw bs pm bm bst bf n T w nR pw bw2 pz bz nW wc : Nat} {wa : Option Addr} {mv tv : Int} {ws : List Int} {st : List Bool} {os : List RO} {ms : List Nat} {rs : List RG} {fs wds sts : List Int} {xs : List WX} {C D j : Nat} {x : WX} {Q A Z : Nat → Nat}
theorem Step_rest (F : SF n T w nR ws st os ms rs fs) (h : SI n T w nR ws os ms xs sts wds mv C D Q A Z) (hj : xs[j]? = some x) (hl : xs.length ≤ 64) (ht : In64 (tv + 1)) (hf : x.fn = fnX) :
    Does Try.prog fnX [ptr x.c 0] (wkL ps x ++ shZ ps pf p bw bs pm bm bst bf n T w nR pw bw2 pz bz nW wc wa (partsI T (szL (lvs ms os)) : Nat) mv tv ws st ms rs fs sts wds) (StepPost ps pf p bw bs pm bm bst bf n T w nR pw bw2 pz bz nW wc wa tv ws st os ms rs fs sts xs C D j x) := by
  have hjl := (List.getElem?_eq_some_iff.1 hj).1
  have hw := h.who j x hj
  have hsl := h.sl
  have hwl := h.wl
  have hnR := F.nRT
  have htn := F.h.tn
  have hn6 := F.n6
  have hsz := F.hsz
  refine (Rest_spec.wide (L := wkL ps x ++ shZ ps pf p bw bs pm bm bst bf n T w nR pw bw2 pz bz nW wc wa (partsI T (szL (lvs ms os)) : Nat) mv tv ws st ms rs fs sts wds) (is := []) rfl).post ?_
  rintro u l ⟨_, ⟨rfl, rfl⟩, rfl⟩
  exact ⟨_, ⟨x, sts, wds, mv, tv, C, D, .stay hj h (.inl rfl) (.inr (.inr hf)), rfl, rfl⟩, fun H hl => hl⟩
theorem Step_all (F : SF n T w nR ws st os ms rs fs) (h : SI n T w nR ws os ms xs sts wds mv C D Q A Z) (hj : xs[j]? = some x) (hl : xs.length ≤ 64) (ht : In64 (tv + 1)) (hf : x.fn = fnA) :
    Does Try.prog fnA [ptr x.c 0] (wkL ps x ++ shZ ps pf p bw bs pm bm bst bf n T w nR pw bw2 pz bz nW wc wa (partsI T (szL (lvs ms os)) : Nat) mv tv ws st ms rs fs sts wds) (StepPost ps pf p bw bs pm bm bst bf n T w nR pw bw2 pz bz nW wc wa tv ws st os ms rs fs sts xs C D j x) := by
  have hjl := (List.getElem?_eq_some_iff.1 hj).1
  have hw := h.who j x hj
  have hsl := h.sl
  have hwl := h.wl
  have hnR := F.nRT
  have htn := F.h.tn
  have hn6 := F.n6
  have hsz := F.hsz
  obtain ⟨hC, a, ha, han, hd⟩ := (h.wk j x hj).all_inv hf
  have e : wkL ps x = [wkR ps x.c x.who x.fn x.region (.slice x.wa x.wl.length x.wc) (.slice x.oa x.ol.length x.oc) x.from_ x.to x.size x.refs a x.word x.end_, rowz 3 1 x.wa x.wl.length x.wc (intsV x.wl), rowz 3 1 x.oa x.ol.length x.oc (intsV x.ol)] := by
    unfold wkL wkC
    rw [ha]
  by_cases hlt : a < nR
  · obtain ⟨y, hy⟩ : ∃ y, sts[3 + a]? = some y := ⟨sts[3 + a]'(by omega), List.getElem?_eq_getElem _⟩
    rw [e]
    refine ((All_look (ps := ps) (pf := pf) (p := p) (pw := pw) (pz := pz) (nW := nW) (wc := wc) (wa := wa) (pv := (partsI T (szL (lvs ms os)) : Nat)) (mv := mv) (tv := tv) (c := x.c) (who := x.who) (fn := x.fn) (region := x.region) (wv := .slice x.wa x.wl.length x.wc) (ov := .slice x.oa x.ol.length x.oc) (from_ := x.from_) (to := x.to) (size := x.size) (refs := x.refs) (word := x.word) (end_ := x.end_) (bz := bz) (pm := pm) (w := w) (bst := bst) (bf := bf) a (by omega) (by omega) hlt (by omega) hy (by omega) ht).wide (is := [0, 2, 4, 2]) rfl).post ?_
    rintro u l ⟨_, ⟨rfl, rfl⟩, rfl⟩
    rcases h.d01 a hlt with h0 | h1
    · rw [hy] at h0
      injection h0 with h0
      subst h0
      refine ⟨_, ⟨x, sts, wds, mv, tv + 1, C, D, .stay hj h (.inr rfl) (.inr (.inl ⟨hf, a, ha, hlt, hy⟩)), rfl, rfl⟩, fun H hl => ?_⟩
      rw [e]
      exact hl.pick (is := [0, 3, 3, 0, 1, 1, 0, 0, 0, 0, 0, 0, 0, 0, 0]) rfl
    · rw [hy] at h1
      injection h1 with h1
      subst h1
      refine ⟨_, ⟨{ x with at_ := (a : Int) + 1 }, sts, wds, mv, tv + 1, C, D, .lt (h.all_look hj hf ha hlt hy) (.inr rfl) rfl (Phi_lt hj ?_) (by omega), rfl, rfl⟩, fun H hl => hl.pick (is := [0, 3, 3, 0, 1, 1, 0, 0, 0, 0, 0, 0, 0, 0, 0]) rfl⟩
      rw [phi_A hf]
      refine Nat.lt_of_le_of_lt (Nat.le_of_eq (phi_A hf)) ?_
      show nR - ((a : Int) + 1).toNat + 3 < _
      omega
  · have han2 : a = nR := by omega
    refine ((All_end (ps := ps) (pf := pf) (p := p) (pw := pw) (pz := pz) (nW := nW) (wc := wc) (wa := wa) (pv := (partsI T (szL (lvs ms os)) : Nat)) (mv := mv) (tv := tv) (c := x.c) (who := x.who) (fn := x.fn) (region := x.region) (wv := .slice x.wa x.wl.length x.wc) (ov := .slice x.oa x.ol.length x.oc) (from_ := x.from_) (to := x.to) (size := x.size) (refs := x.refs) (word := x.word) (at_ := x.at_) (end_ := x.end_) (pm := pm) (w := w) (bst := bst) (bf := bf) (nR := nR) (by omega)).wide (is := [0, 2, 4]) rfl).post ?_
    rintro u l ⟨_, ⟨rfl, rfl⟩, rfl⟩
    refine ⟨_, ⟨{ x with fn := fnP }, sts, wds, mv, tv, C, D, .lt (h.all_end hj hf (by omega)) (.inl rfl) rfl (Phi_lt hj ?_) (by omega), rfl, rfl⟩, fun H hl => hl.pick (is := [0, 2, 2, 0, 1, 1, 0, 0, 0, 0, 0, 0, 0, 0, 0]) rfl⟩
    rw [phi_A hf]
    exact Nat.lt_of_le_of_lt (Nat.le_of_eq (phi_P rfl)) (by omega)
theorem Step_part (F : SF n T w nR ws st os ms rs fs) (h : SI n T w nR ws os ms xs sts wds mv C D Q A Z) (hj : xs[j]? = some x) (hl : xs.length ≤ 64) (ht : In64 (tv + 1)) (hP : C + D + PhiI T w nR ws os ms xs C D ≤ 1000000000) (hf : x.fn = fnP) :
    Does Try.prog fnP [ptr x.c 0] (wkL ps x ++ shZ ps pf p bw bs pm bm bst bf n T w nR pw bw2 pz bz nW wc wa (partsI T (szL (lvs ms os)) : Nat) mv tv ws st ms rs fs sts wds) (StepPost ps pf p bw bs pm bm bst bf n T w nR pw bw2 pz bz nW wc wa tv ws st os ms rs fs sts xs C D j x) := by
  have hjl := (List.getElem?_eq_some_iff.1 hj).1
  have hw := h.who j x hj
  have hsl := h.sl
  have hwl := h.wl
  have hnR := F.nRT
  have htn := F.h.tn
  have hn6 := F.n6
  have hsz := F.hsz
  by_cases hD : D < partsI T (szL (lvs ms os))
  · have hDb : D ≤ 65536 := by unfold partsI at hD; omega
    refine ((Part_next (ps := ps) (pf := pf) (p := p) (pw := pw) (pz := pz) (nW := nW) (wc := wc) (wa := wa) (pv := (partsI T (szL (lvs ms os)) : Nat)) (mv := mv) (tv := tv) (c := x.c) (who := x.who) (fn := x.fn) (region := x.region) (wv := .slice x.wa x.wl.length x.wc) (ov := .slice x.oa x.ol.length x.oc) (from_ := x.from_) (to := x.to) (size := x.size) (refs := x.refs) (word := x.word) (at_ := x.at_) (end_ := x.end_) (bz := bz) (bw := bw) (bs := bs) (pm := pm) (bm := bm) (bst := bst) (bf := bf) (n := n) (T := T) (w := w) (nR := nR) (ws := ws) (st := st) (fs := fs) D (szL (lvs ms os)) F.hF rfl (by omega) (by omega) h.s1 hDb (by omega) (by omega) (by omega) (by omega) ht).wide (is := [0, 2, 2, 3, 3, 3, 3, 3, 3, 3, 3, 3]) rfl).post ?_
    rintro u l ⟨_, ⟨rfl, rfl⟩, rfl⟩
    exact ⟨_, ⟨{ x with fn := fnZ, at_ := (szL (lvs ms os) + D * 16 : Nat), end_ := (partE T (szL (lvs ms os)) D : Nat) }, sts.set 1 (D + 1), wds, mv, tv + 1, C, D + 1, .lt (h.part_next hj hf hD) (.inr rfl) rfl (Phi_part hj hf hD rfl rfl rfl) (by omega), rfl, rfl⟩, fun H hl => hl.pick (is := [0, 11, 11, 0, 0, 9, 0, 0, 0, 0, 0, 0, 0, 0, 0]) rfl⟩
  · refine ((Part_none (ps := ps) (pf := pf) (p := p) (pw := pw) (pz := pz) (nW := nW) (wc := wc) (wa := wa) (pv := (partsI T (szL (lvs ms os)) : Nat)) (mv := mv) (tv := tv) (c := x.c) (who := x.who) (fn := x.fn) (region := x.region) (wv := .slice x.wa x.wl.length x.wc) (ov := .slice x.oa x.ol.length x.oc) (from_ := x.from_) (to := x.to) (size := x.size) (refs := x.refs) (word := x.word) (at_ := x.at_) (end_ := x.end_) (bz := bz) D (by omega) (by omega) h.s1 (by omega) (by omega) (by omega) ht).wide (is := [0, 2, 2]) rfl).post ?_
    rintro u l ⟨_, ⟨rfl, rfl⟩, rfl⟩
    exact ⟨_, ⟨{ x with fn := fnX }, sts.set 1 (D + 1), wds, mv, tv + 1, C, D + 1, .lt (h.part_none hj hf (by omega)) (.inr rfl) rfl (Phi_part_none hj hf rfl) (by omega), rfl, rfl⟩, fun H hl => hl.pick (is := [0, 2, 2, 0, 0, 0, 0, 0, 0, 0, 0, 0, 0, 0, 0]) rfl⟩
theorem Step_clear (F : SF n T w nR ws st os ms rs fs) (h : SI n T w nR ws os ms xs sts wds mv C D Q A Z) (hj : xs[j]? = some x) (hl : xs.length ≤ 64) (ht : In64 (tv + 1)) (hP : C + D + PhiI T w nR ws os ms xs C D ≤ 1000000000) (hf : x.fn = fnZ) :
    Does Try.prog fnZ [ptr x.c 0] (wkL ps x ++ shZ ps pf p bw bs pm bm bst bf n T w nR pw bw2 pz bz nW wc wa (partsI T (szL (lvs ms os)) : Nat) mv tv ws st ms rs fs sts wds) (StepPost ps pf p bw bs pm bm bst bf n T w nR pw bw2 pz bz nW wc wa tv ws st os ms rs fs sts xs C D j x) := by
  have hjl := (List.getElem?_eq_some_iff.1 hj).1
  have hw := h.who j x hj
  have hsl := h.sl
  have hwl := h.wl
  have hnR := F.nRT
  have htn := F.h.tn
  have hn6 := F.n6
  have hsz := F.hsz
  by_cases he : x.at_ = x.end_
  · obtain ⟨E, hE, hS⟩ := h.clear_end hj hf he
    obtain ⟨E2, hE2, hE3⟩ := h.s2
    have hEE : E = E2 := by rw [hE] at hE2; injection hE2 with hE2; omega
    refine ((Clear_end (ps := ps) (pf := pf) (p := p) (pw := pw) (pz := pz) (nW := nW) (wc := wc) (wa := wa) (pv := (partsI T (szL (lvs ms os)) : Nat)) (mv := mv) (tv := tv) (c := x.c) (who := x.who) (fn := x.fn) (region := x.region) (wv := .slice x.wa x.wl.length x.wc) (ov := .slice x.oa x.ol.length x.oc) (from_ := x.from_) (to := x.to) (size := x.size) (refs := x.refs) (word := x.word) (at_ := x.at_) (end_ := x.end_) (bz := bz) E (by omega) (by omega) hE (by omega) he (by omega) ht).wide (is := [0, 2, 2]) rfl).post ?_
    rintro u l ⟨_, ⟨rfl, rfl⟩, rfl⟩
    refine ⟨_, ⟨{ x with fn := fnP }, sts.set 2 (E + 1), wds, mv, tv + 1, C, D, .lt hS (.inr rfl) rfl (Phi_lt hj ?_) (by omega), rfl, rfl⟩, fun H hl => hl.pick (is := [0, 2, 2, 0, 0, 0, 0, 0, 0, 0, 0, 0, 0, 0, 0]) rfl⟩
    rw [phi_Z hf]
    exact Nat.lt_of_le_of_lt (Nat.le_of_eq (phi_P rfl)) (by omega)
  · obtain ⟨a, Z', ha, han, hS⟩ := h.clear_next F.h.tn hj hf he
    have e : wkL ps x = [wkR ps x.c x.who x.fn x.region (.slice x.wa x.wl.length x.wc) (.slice x.oa x.ol.length x.oc) x.from_ x.to x.size x.refs a x.word x.end_, rowz 3 1 x.wa x.wl.length x.wc (intsV x.wl), rowz 3 1 x.oa x.ol.length x.oc (intsV x.ol)] := by
      unfold wkL wkC
      rw [ha]
    obtain ⟨hd, c, hc, hD, he2, ha2⟩ := (h.wk j x hj).clear_inv hf
    have hzl := h.zl c
    have hpe : szL (lvs ms os) + c * 16 ≤ partE T (szL (lvs ms os)) c := by
      unfold partE
      unfold partsI at hc
      omega
    have hle : x.at_ ≤ x.end_ := by
      unfold partL at hzl
      omega
    rw [e]
    refine ((Clear_next (ps := ps) (pf := pf) (p := p) (pw := pw) (pz := pz) (nW := nW) (wc := wc) (wa := wa) (pv := (partsI T (szL (lvs ms os)) : Nat)) (mv := mv) (tv := tv) (c := x.c) (who := x.who) (fn := x.fn) (region := x.region) (wv := .slice x.wa x.wl.length x.wc) (ov := .slice x.oa x.ol.length x.oc) (from_ := x.from_) (to := x.to) (size := x.size) (refs := x.refs) (word := x.word) (end_ := x.end_) (bw2 := bw2) a (by omega) (by omega) (by omega) (by omega) (by omega) ht).wide (is := [0, 2, 3]) rfl).post ?_
    rintro u l ⟨_, ⟨rfl, rfl⟩, rfl⟩
    refine ⟨_, ⟨{ x with at_ := (a : Int) + 1 }, sts, wds.set a 0, mv, tv + 1, C, D, .lt hS (.inr rfl) rfl (Phi_lt hj ?_) (by omega), rfl, rfl⟩, fun H hl => hl.pick (is := [0, 2, 2, 0, 1, 0, 0, 0, 0, 0, 0, 0, 0, 0, 0]) rfl⟩
    rw [phi_Z hf]
    refine Nat.lt_of_le_of_lt (Nat.le_of_eq (phi_Z hf)) ?_
    show (x.end_ - ((a : Int) + 1)).toNat + 2 < _
    omega
/-- One that waits for nothing goes on with its objects. -/
theorem Ready_obj {f : Nat} {c : Nat} {who region from_ to size refs at_ word end_ : Int} {xa : Option Addr} {xc : Nat} {ov : Value} {pre : List HP} {post : List HP → Prop}
    (hO : Does Try.prog fnO [ptr c 0] (wkR ps c who f region (.slice xa 0 xc) ov from_ to size refs at_ word end_ :: pre) (fun v l => v = .tuple #[] ∧ post l)) :
    Does Try.prog fnR [ptr c 0] (wkR ps c who f region (.slice xa 0 xc) ov from_ to size refs at_ word end_ :: pre) (fun v l => v = .tuple #[] ∧ post l) := by
  refine Does.of tiok Try.func69 (by kernel_rfl) rfl Try.ntmps69 rfl ?_
  intro W fr
  repeat' (first | (refine IsO ?_; first | refine JO_nil ?_ | (refine IsLoad ?_; refine L1 rfl rfl rfl rfl ?_) | refine V1 rfl rfl rfl ?_) | (refine IsAt ?_; (with_reducible first | refine T1 ?_ | refine T2 ?_)) | (refine IsJ ?_; first | refine J_seq ?_ | refine J_region ?_ | refine J_ret ?_ | (refine IsCond ?_; refine J_cond_t rfl ?_)))
  refine JO_l (OL_callP (r := []) rfl rfl rfl hO (by rw [List.append_nil])) rfl rfl ?_
  rintro _ _ ⟨l1, ⟨rfl, hp⟩, rfl⟩
  repeat' (first | (refine IsO ?_; first | refine JO_nil ?_ | (refine IsLoad ?_; refine L1 rfl rfl rfl rfl ?_) | refine V1 rfl rfl rfl ?_) | (refine IsAt ?_; (with_reducible first | refine T1 ?_ | refine T2 ?_)) | (refine IsJ ?_; first | refine J_seq ?_ | refine J_region ?_ | refine J_ret ?_ | (refine IsCond ?_; refine J_cond_t rfl ?_)))
  exact At_ret' rfl rfl .nil rfl (fun H hl => hl) ⟨rfl, by rw [List.append_nil]; exact hp⟩
theorem Step_ready (F : SF n T w nR ws st os ms rs fs) (h : SI n T w nR ws os ms xs sts wds mv C D Q A Z) (hj : xs[j]? = some x) (hl : xs.length ≤ 64) (ht : In64 (tv + 1)) (hf : x.fn = fnR) :
    Does Try.prog fnR [ptr x.c 0] (wkL ps x ++ shZ ps pf p bw bs pm bm bst bf n T w nR pw bw2 pz bz nW wc wa (partsI T (szL (lvs ms os)) : Nat) mv tv ws st ms rs fs sts wds) (StepPost ps pf p bw bs pm bm bst bf n T w nR pw bw2 pz bz nW wc wa tv ws st os ms rs fs sts xs C D j x) := by
  have hjl := (List.getElem?_eq_some_iff.1 hj).1
  have hw := h.who j x hj
  have hsl := h.sl
  have hwl := h.wl
  have hnR := F.nRT
  have htn := F.h.tn
  have hn6 := F.n6
  have hsz := F.hsz
  obtain ⟨k, hr, hk, hC, h0, ho, hlk, hb⟩ := (h.wk j x hj).ready_inv hf
  have hcase : x.wl = [] ∨ ∃ y rest, x.wl = y :: rest := by cases x.wl <;> simp
  rcases hcase with hw0 | ⟨y, rest, hw0⟩
  · have hS := h.ready_go hj hf hw0
    have hO := Step_object (ps := ps) (pf := pf) (p := p) (bw := bw) (bs := bs) (pm := pm) (bm := bm) (bst := bst) (bf := bf) (pw := pw) (bw2 := bw2) (pz := pz) (bz := bz) (nW := nW) (wc := wc) (wa := wa) F hS (set_hit hj) (by rw [List.length_set]; exact hl) ht rfl x.fn
    have e : wkL ps x = [wkR ps x.c x.who x.fn x.region (.slice x.wa 0 x.wc) (.slice x.oa x.ol.length x.oc) x.from_ x.to x.size x.refs x.at_ x.word x.end_, rowz 3 1 x.wa 0 x.wc [], rowz 3 1 x.oa x.ol.length x.oc (intsV x.ol)] := by
      unfold wkL wkC
      rw [hw0]; rfl
    have hO2 : Does Try.prog fnO [ptr x.c 0] (wkL ps x ++ shZ ps pf p bw bs pm bm bst bf n T w nR pw bw2 pz bz nW wc wa (partsI T (szL (lvs ms os)) : Nat) mv tv ws st ms rs fs sts wds) (fun v l => v = .tuple #[] ∧ StepPost ps pf p bw bs pm bm bst bf n T w nR pw bw2 pz bz nW wc wa tv ws st os ms rs fs sts (xs.set j { x with fn := fnO }) C D j { x with fn := fnO } v l) :=
      hO.mono fun v l hp => ⟨by obtain ⟨_, _, _, _, _, _, _, _, hv, _⟩ := hp; exact hv, hp⟩
    rw [e] at hO2 ⊢
    refine (Ready_obj (post := fun l => StepPost ps pf p bw bs pm bm bst bf n T w nR pw bw2 pz bz nW wc wa tv ws st os ms rs fs sts (xs.set j { x with fn := fnO }) C D j { x with fn := fnO } (.tuple #[]) l) (hO2.mono fun v l ⟨hv, hp⟩ => ⟨hv, hv ▸ hp⟩)).mono ?_
    rintro v l ⟨rfl, x', sts', wds', mv', tv', C', D', ⟨⟨Q', A', Z', hS2⟩, g1, g2, g3, g4⟩, _, rfl⟩
    have hlt : PhiI T w nR ws os ms (xs.set j { x with fn := fnO }) C D < PhiI T w nR ws os ms xs C D := by
      refine Phi_lt hj ?_
      rw [phi_R hf]
      refine Nat.lt_of_le_of_lt (Nat.le_of_eq (phi_O rfl)) ?_
      show x.ol.length + 2 * szA ws x.ol + 1 + (nR + 5) < _
      omega
    have ess : (xs.set j { x with fn := fnO }).set j x' = xs.set j x' := List.set_set ..
    rw [ess] at hS2 g2 g4
    refine ⟨x', sts', wds', mv', tv', C', D', ⟨⟨Q', A', Z', hS2⟩, g1, by omega, g3, .inl ?_⟩, rfl, rfl⟩
    rcases g4 with g4 | ⟨hk2, _⟩
    · omega
    · exfalso
      rcases hk2 with ⟨e2, _⟩ | ⟨e2, _⟩ | e2
      · have e2 : fnO = fnR := e2
        exact absurd e2 (by decide)
      · have e2 : fnO = fnA := e2
        exact absurd e2 (by decide)
      · have e2 : fnO = fnX := e2
        exact absurd e2 (by decide)
  · obtain ⟨r, rfl, hrk⟩ := hb y (by rw [hw0]; exact .head _)
    have hwlen : rest.length + 1 ≤ k := by rw [hw0] at hlk; exact hlk
    obtain ⟨v, hv⟩ : ∃ v, sts[3 + r]? = some v := ⟨sts[3 + r]'(by omega), List.getElem?_eq_getElem _⟩
    have e : wkL ps x = [wkR ps x.c x.who x.fn x.region (.slice x.wa (rest.length + 1) x.wc) (.slice x.oa x.ol.length x.oc) x.from_ x.to x.size x.refs x.at_ x.word x.end_, rowz 3 1 x.wa (rest.length + 1) x.wc (.int .i64 (r : Int) :: intsV rest), rowz 3 1 x.oa x.ol.length x.oc (intsV x.ol)] := by
      unfold wkL wkC
      rw [hw0]; rfl
    rw [e]
    refine ((Ready_wait (ps := ps) (pf := pf) (p := p) (pw := pw) (pz := pz) (nW := nW) (wc := wc) (wa := wa) (pv := (partsI T (szL (lvs ms os)) : Nat)) (mv := mv) (tv := tv) (c := x.c) (who := x.who) (fn := x.fn) (region := x.region) (from_ := x.from_) (to := x.to) (size := x.size) (refs := x.refs) (word := x.word) (ov := .slice x.oa x.ol.length x.oc) (at_ := x.at_) (end_ := x.end_) (bz := bz) r rest x.wa x.wc (by omega) (by omega) hv (by omega) (by omega) ht).wide (is := [0, 0, 1, 1]) rfl).post ?_
    rcases h.d01 r (by omega) with h00 | h11
    · rw [hv] at h00
      injection h00 with h00
      subst h00
      rintro u l ⟨_, ⟨rfl, (⟨hpos, _⟩ | ⟨_, rfl⟩)⟩, rfl⟩
      · exact absurd hpos (by decide)
      · refine ⟨_, ⟨x, sts, wds, mv, tv + 1, C, D, .stay hj h (.inr rfl) (.inl ⟨hf, r, rest, hw0, hv⟩), rfl, rfl⟩, fun H hl => ?_⟩
        rw [e]
        exact hl.pick (is := [0, 0, 2, 0, 0, 0, 0, 0, 0, 0, 0, 0, 0, 0, 0]) rfl
    · rw [hv] at h11
      injection h11 with h11
      subst h11
      rintro u l ⟨_, ⟨rfl, (⟨_, xa', xc', rfl⟩ | ⟨hn, _⟩)⟩, rfl⟩
      · refine ⟨_, ⟨{ x with wa := xa', wl := rest, wc := xc' }, sts, wds, mv, tv + 1, C, D, .lt (h.ready_wait hj hf hw0 hv xa' xc') (.inr rfl) rfl (Phi_lt hj ?_) (by omega), rfl, rfl⟩, fun H hl => hl.pick (is := [0, 0, 2, 0, 0, 0, 0, 0, 0, 0, 0, 0, 0, 0, 0]) rfl⟩
        rw [phi_R hf, hw0]
        refine Nat.lt_of_le_of_lt (Nat.le_of_eq (phi_R hf)) ?_
        show rest.length + 3 + x.ol.length + 2 * szA ws x.ol + (nR + 5) < rest.length + 1 + 3 + x.ol.length + 2 * szA ws x.ol + (nR + 5)
        omega
      · exact absurd (by decide) hn
theorem Step_any (F : SF n T w nR ws st os ms rs fs) (h : SI n T w nR ws os ms xs sts wds mv C D Q A Z) (hj : xs[j]? = some x) (hl : xs.length ≤ 64) (ht : In64 (tv + 1)) (hP : C + D + PhiI T w nR ws os ms xs C D ≤ 1000000000) :
    Does Try.prog x.fn [ptr x.c 0] (wkL ps x ++ shZ ps pf p bw bs pm bm bst bf n T w nR pw bw2 pz bz nW wc wa (partsI T (szL (lvs ms os)) : Nat) mv tv ws st ms rs fs sts wds) (StepPost ps pf p bw bs pm bm bst bf n T w nR pw bw2 pz bz nW wc wa tv ws st os ms rs fs sts xs C D j x) := by
  rcases (h.wk j x hj).fns with hf | hf | hf | hf | hf | hf | hf | hf | hf
  · have := Step_claim (ps := ps) (pf := pf) (p := p) (bw := bw) (bs := bs) (pm := pm) (bm := bm) (bst := bst) (bf := bf) (pw := pw) (bw2 := bw2) (pz := pz) (bz := bz) (nW := nW) (wc := wc) (wa := wa) F h hj hl ht hP hf
    rw [hf]; exact this
  · have := Step_ready (ps := ps) (pf := pf) (p := p) (bw := bw) (bs := bs) (pm := pm) (bm := bm) (bst := bst) (bf := bf) (pw := pw) (bw2 := bw2) (pz := pz) (bz := bz) (nW := nW) (wc := wc) (wa := wa) F h hj hl ht hf
    rw [hf]; exact this
  · have := Step_object (ps := ps) (pf := pf) (p := p) (bw := bw) (bs := bs) (pm := pm) (bm := bm) (bst := bst) (bf := bf) (pw := pw) (bw2 := bw2) (pz := pz) (bz := bz) (nW := nW) (wc := wc) (wa := wa) F h hj hl ht hf x.fn
    rw [hf]; exact this
  · have := Step_fetch (ps := ps) (pf := pf) (p := p) (bw := bw) (bs := bs) (pm := pm) (bm := bm) (bst := bst) (bf := bf) (pw := pw) (bw2 := bw2) (pz := pz) (bz := bz) (nW := nW) (wc := wc) (wa := wa) F h hj hl ht hf
    rw [hf]; exact this
  · have := Step_lay (ps := ps) (pf := pf) (p := p) (bw := bw) (bs := bs) (pm := pm) (bm := bm) (bst := bst) (bf := bf) (pw := pw) (bw2 := bw2) (pz := pz) (bz := bz) (nW := nW) (wc := wc) (wa := wa) F h hj hl ht hf
    rw [hf]; exact this
  · have := Step_all (ps := ps) (pf := pf) (p := p) (bw := bw) (bs := bs) (pm := pm) (bm := bm) (bst := bst) (bf := bf) (pw := pw) (bw2 := bw2) (pz := pz) (bz := bz) (nW := nW) (wc := wc) (wa := wa) F h hj hl ht hf
    rw [hf]; exact this
  · have := Step_part (ps := ps) (pf := pf) (p := p) (bw := bw) (bs := bs) (pm := pm) (bm := bm) (bst := bst) (bf := bf) (pw := pw) (bw2 := bw2) (pz := pz) (bz := bz) (nW := nW) (wc := wc) (wa := wa) F h hj hl ht hP hf
    rw [hf]; exact this
  · have := Step_clear (ps := ps) (pf := pf) (p := p) (bw := bw) (bs := bs) (pm := pm) (bm := bm) (bst := bst) (bf := bf) (pw := pw) (bw2 := bw2) (pz := pz) (bz := bz) (nW := nW) (wc := wc) (wa := wa) F h hj hl ht hP hf
    rw [hf]; exact this
  · have := Step_rest (ps := ps) (pf := pf) (p := p) (bw := bw) (bs := bs) (pm := pm) (bm := bm) (bst := bst) (bf := bf) (pw := pw) (bw2 := bw2) (pz := pz) (bz := bz) (nW := nW) (wc := wc) (wa := wa) F h hj hl ht hf
    rw [hf]; exact this
theorem set_sameV {α : Type} {l : List α} {i : Nat} {v : α} (h : l[i]? = some v) : l.set i v = l := by
  obtain ⟨h1, h2⟩ := List.getElem?_eq_some_iff.1 h
  rw [← h2]; exact List.set_getElem_self h1
/-- What is known of the state of a sliding. -/
abbrev sldS (ps pf p bw bs pm bm bst bf n T w nR pw bw2 pz bz : Nat) (ws : List Int) (st : List Bool) (ms : List Nat) (rs : List RG) (fs : List Int) (wa : Option Addr) (wc : Nat) (S : Nat) (sts wds : List Int) (xs : List WX) (mv tv : Int) : List HP :=
  sldZ ps pf p bw bs pm bm bst bf n T w nR pw bw2 pz bz ws st ms rs fs wds sts wa wc xs (partsI T S : Nat) mv tv
set_option maxHeartbeats 8000000 in
theorem Step_spec (F : SF n T w nR ws st os ms rs fs) (h : SI n T w nR ws os ms xs sts wds mv C D Q A Z) (hj : xs[j]? = some x) (hl : xs.length ≤ 64) (ht : In64 (tv + 1)) (hP : C + D + PhiI T w nR ws os ms xs C D ≤ 1000000000) (hno : ¬ OverP sts nR (partsI T (szL (lvs ms os)) : Nat)) :
    Does Try.prog 21 [ptr ps 0, .int .i64 j] (sldS ps pf p bw bs pm bm bst bf n T w nR pw bw2 pz bz ws st ms rs fs wa wc (szL (lvs ms os)) sts wds xs mv tv)
    (fun v l => ∃ (x' : WX) (sts' wds' : List Int) (mv' tv' : Int) (C' D' : Nat), StepR n T w nR ws os ms xs sts tv C D j x x' sts' wds' mv' tv' C' D' ∧ v = .int .i64 0 ∧
      l = sldS ps pf p bw bs pm bm bst bf n T w nR pw bw2 pz bz ws st ms rs fs wa wc (szL (lvs ms os)) sts' wds' (xs.set j x') mv' tv') := by
  have hjl := (List.getElem?_eq_some_iff.1 hj).1
  have hsl := h.sl
  have hnR := F.nRT
  have htn := F.h.tn
  have hn6 := F.n6
  refine Does.of tiok Try.func21 (by kernel_rfl) rfl Try.ntmps21 rfl ?_
  intro W fr
  refine J_row (i := 1) rfl fun hr => ?_
  have hRr : Reads (row 107 1 wa xs.length wc (wkP xs)) 1 xs.length wa wc (wkP xs) := Reads.row hr.1 hr.2.1
  refine J_fact _ (fun w hs => hRr.some (by omega) hs (by simp)) ?_
  rintro ⟨b2, o2, rfl⟩
  repeat' (first | (refine IsO ?_; first | refine JO_nil ?_ | (refine IsMove ?_; refine M2 rfl rfl rfl ?_) | (refine IsLoad ?_; refine L1 rfl rfl rfl rfl ?_) | refine V1 rfl rfl rfl ?_) | (refine IsAt ?_; (with_reducible first | refine T1 ?_ | refine T5 ?_)) | (refine IsJ ?_; first | refine J_seq ?_ | refine J_region ?_ | refine J_block ?_ | refine J_skip ?_ | refine J_ret ?_ | (refine IsCond ?_; first | refine J_cond_f rfl ?_ | refine K2 rfl ?_)))
  refine JO_l (OL_call [0, 0, 0, 0, 0, 0, 0, 0, 0, 0, 0, 0, 0, 0] rfl rfl rfl (Over_spec hsl (by omega)) rfl) rfl rfl ?_
  rintro _ _ ⟨_, ⟨t, ht2, rfl, rfl⟩, rfl⟩
  obtain rfl : t = false := by
    cases t with
    | false => rfl
    | true => exact absurd (ht2.1 rfl) hno
  repeat' (first | (refine IsO ?_; first | refine JO_nil ?_ | (refine IsMove ?_; refine M2 rfl rfl rfl ?_) | (refine IsLoad ?_; refine L1 rfl rfl rfl rfl ?_) | refine V1 rfl rfl rfl ?_) | (refine IsAt ?_; (with_reducible first | refine T1 ?_ | refine T5 ?_)) | (refine IsJ ?_; first | refine J_seq ?_ | refine J_region ?_ | refine J_block ?_ | refine J_skip ?_ | refine J_ret ?_ | (refine IsCond ?_; first | refine J_cond_f rfl ?_ | refine K2 rfl ?_)))
  refine JO_val (OV_idx (off := o2 + j) rfl rfl rfl rfl (by omega) (by omega) (by simp)) rfl rfl ?_
  refine JO_q (OQ_read (i := j) (v := ptr x.c 0) hRr (by simp) rfl rfl (by omega) (by simp [hj])) rfl rfl ?_
  refine JO_hp (l' := wkL ps x ++ shZ ps pf p bw bs pm bm bst bf n T w nR pw bw2 pz bz xs.length wc (some ⟨b2, o2, none⟩) (partsI T (szL (lvs ms os)) : Nat) mv tv ws st ms rs fs sts wds ++ [bigM (wkH ps) (xs.eraseIdx j), row 107 1 (some ⟨b2, o2, none⟩) xs.length wc (wkP xs)]) (fun H hl => ?_) ?_
  · have h1 := bigM.out hj (hl.pick (l := _) (is := [2, 0, 0, 0, 0, 0, 0, 0, 0, 0, 0, 0, 0, 0]) rfl)
    exact (Stars.open (ps := wkL ps x) h1).pick (is := [0, 0, 0, 1, 2, 2, 5, 2, 2, 2, 2, 2, 2, 2, 2, 0, 0]) rfl
  repeat' (first | (refine IsO ?_; first | refine JO_nil ?_ | (refine IsMove ?_; refine M2 rfl rfl rfl ?_) | (refine IsLoad ?_; refine L1 rfl rfl rfl rfl ?_) | refine V1 rfl rfl rfl ?_) | (refine IsAt ?_; (with_reducible first | refine T1 ?_ | refine T5 ?_)) | (refine IsJ ?_; first | refine J_seq ?_ | refine J_region ?_ | refine J_block ?_ | refine J_skip ?_ | refine J_ret ?_ | (refine IsCond ?_; first | refine J_cond_f rfl ?_ | refine K2 rfl ?_)))
  refine JO_l (OL_call [0, 0, 0, 0, 0, 0, 0, 0, 0, 0, 0, 0, 0, 0, 0] rfl rfl rfl (Step_any F h hj hl ht hP) rfl) rfl rfl ?_
  rintro _ _ ⟨_, ⟨x', sts', wds', mv', tv', C', D', hS, rfl, rfl⟩, rfl⟩
  repeat' (first | (refine IsO ?_; first | refine JO_nil ?_ | (refine IsMove ?_; refine M2 rfl rfl rfl ?_) | (refine IsLoad ?_; refine L1 rfl rfl rfl rfl ?_) | refine V1 rfl rfl rfl ?_) | (refine IsAt ?_; (with_reducible first | refine T1 ?_ | refine T5 ?_)) | (refine IsJ ?_; first | refine J_seq ?_ | refine J_region ?_ | refine J_block ?_ | refine J_skip ?_ | refine J_ret ?_ | (refine IsCond ?_; first | refine J_cond_f rfl ?_ | refine K2 rfl ?_)))
  refine At_ret' rfl rfl (.tmp rfl .nil) rfl (fun H hl => ?_) ⟨x', sts', wds', mv', tv', C', D', hS, rfl, rfl⟩
  have h1 : Stars (wkH ps x' :: bigM (wkH ps) (xs.eraseIdx j) :: (row 107 1 (some ⟨b2, o2, none⟩) xs.length wc (wkP xs) :: shZ ps pf p bw bs pm bm bst bf n T w nR pw bw2 pz bz xs.length wc (some ⟨b2, o2, none⟩) (partsI T (szL (lvs ms os)) : Nat) mv' tv' ws st ms rs fs sts' wds')) H :=
    Stars.shut (ps := wkL ps x') (hl.pick (l := _) (is := [0, 0, 0, 12, 12, 0, 0, 0, 0, 0, 0, 0, 0, 0, 0, 0, 0]) rfl)
  have h2 := bigM.back hjl h1
  have e1 : (xs.set j x').length = xs.length := List.length_set ..
  have e2 : wkP (xs.set j x') = wkP xs := by
    unfold wkP
    rw [List.map_set, hS.2.2.2.1]
    apply set_sameV
    rw [List.getElem?_map, hj]; rfl
  show Stars (sldZ _ _ _ _ _ _ _ _ _ _ _ _ _ _ _ _ _ _ _ _ _ _ _ _ _ _ _ _ _ _) H
  unfold sldZ
  rw [e1, e2]
  exact h2.pick (is := [2, 1, 0, 0, 0, 1, 1, 1, 0, 0, 0, 0, 0, 0]) rfl
end ops
end Go.Proofs.Ytahfnbpbdnmggaa
/-
  Our own: what heap.Of's walk tells of the words.
-/
set_option linter.unusedVariables false
set_option linter.unusedSimpArgs false
namespace Go.Proofs.Ytahfnbpbdnmggaa
open Go.Sep
theorem ofF_tell {n T : Nat} {ws : List Int} (hn : ws.length = n) (hT : T ≤ n) : ∀ {f i : Nat} {st st' : List Bool}, ofF ws T f i st = some st' → T < i + f → i ≤ T → st.length = n → (i = 0 ∨ st[0]? = some true) →
    (∀ j : Nat, st[j]? = some true → j < i ∧ ∃ w, ws[j]? = some w ∧ wordB w = true ∧ j + 1 + (unN w).toNat ≤ i ∧ (j + 1 + (unN w).toNat = i ∨ st[j + 1 + (unN w).toNat]? = some true) ∧ ∀ q, j < q → q < j + 1 + (unN w).toNat → st[q]? ≠ some true) →
    (T = 0 ∨ st'[0]? = some true) ∧ (∀ j : Nat, st'[j]? = some true → ∃ w, ws[j]? = some w ∧ wordB w = true ∧ j + 1 + (unN w).toNat ≤ T ∧ (j + 1 + (unN w).toNat = T ∨ st'[j + 1 + (unN w).toNat]? = some true) ∧ ∀ q, j < q → q < j + 1 + (unN w).toNat → st'[q]? ≠ some true)
  | 0, i, st, st', h, hf, hi, hl, hz, hp => by omega
  | f + 1, i, st, st', h, hf, hi, hl, hz, hp => by
    by_cases hlt : i < T
    · obtain ⟨w, f', hf', hw, hb, hle, ho, _, _⟩ := ofF_step h hf hlt (by omega) (by omega)
      obtain rfl : f = f' := by omega
      have hset : (st.set i true)[i]? = some true := by rw [List.getElem?_set, if_pos rfl, if_pos (by omega)]
      have keep : ∀ q : Nat, st[q]? = some true → (st.set i true)[q]? = some true := fun q hq => by
        by_cases e : i = q
        · subst e; exact hset
        · rw [List.getElem?_set_ne e]; exact hq
      refine ofF_tell hn hT ho (by omega) hle (by simp [hl]) (.inr ?_) fun j hj => ?_
      · rcases hz with e | e
        · subst e; exact hset
        · exact keep 0 e
      rcases set_trueB hj with rfl | hj'
      · refine ⟨by omega, w, hw, hb, by omega, .inl rfl, fun q h1 h2 hq => ?_⟩
        rcases set_trueB hq with e | hq
        · omega
        · have := (hp q hq).1; omega
      · obtain ⟨h1, w', a1, a2, a3, a4, a5⟩ := hp j hj'
        refine ⟨by omega, w', a1, a2, by omega, .inr ?_, fun q h1 h2 hq => ?_⟩
        · rcases a4 with e | e
          · rw [e]; exact hset
          · exact keep _ e
        rcases set_trueB hq with e | hq
        · omega
        · exact a5 q h1 h2 hq
    · obtain rfl : i = T := by omega
      simp only [ofF, if_neg hlt] at h
      injection h with h
      subst h
      refine ⟨hz, fun j hj => ?_⟩
      obtain ⟨h1, w', a1, a2, a3, a4, a5⟩ := hp j hj
      exact ⟨w', a1, a2, a3, a4, a5⟩
theorem of_tell {T : Nat} {ws : List Int} {st : List Bool} (hz : ∀ w ∈ ws, In64 w) (hb : ws.length ≤ 65536) (hT : T ≤ ws.length) (h : ofF ws T (T + 1) 0 (List.replicate ws.length false) = some st) : HT ws.length T ws st := by
  obtain ⟨h1, h2⟩ := ofF_tell rfl hT h (by omega) (Nat.zero_le _) (by simp) (.inl rfl) fun j hj => by
    rw [List.getElem?_replicate] at hj
    split at hj <;> cases hj
  exact ⟨rfl, by have := ofF_len h; rw [this]; simp, hb, hT, hz, h1, h2⟩
end Go.Proofs.Ytahfnbpbdnmggaa
/-
  Our own: what comes of a sliding is a heap; slider.Heap.
-/
set_option linter.unusedVariables false
set_option linter.unusedSimpArgs false
namespace Go.Proofs.Ytahfnbpbdnmggaa
open Go.Sep
theorem ofF_ch {ws : List Int} {T : Nat} : ∀ {os : List RO} {i f : Nat} {st : List Bool}, Ch ws i os T → T < i + f → ∃ st', ofF ws T f i st = some st'
  | [], i, f, st, h, hf => by
    obtain ⟨g, rfl⟩ : ∃ g, f = g + 1 := ⟨f - 1, by have : i = T := h; omega⟩
    have : ¬ i < T := by have : i = T := h; omega
    exact ⟨st, by simp only [ofF, this, if_false]⟩
  | o :: r, i, f, st, h, hf => by
    obtain ⟨h1, h2, h3, h4, h5⟩ := h
    have hle := h5.le
    obtain ⟨g, rfl⟩ : ∃ g, f = g + 1 := ⟨f - 1, by omega⟩
    obtain ⟨u0, u1, u2, u3, u4⟩ := packI_un h2
    obtain ⟨st', hst⟩ := ofF_ch (f := g) (st := st.set i true) h5 (by omega)
    refine ⟨st', ?_⟩
    have hlt : i < T := by omega
    simp only [ofF, hlt, if_true, h3, u1, u3, Int.toNat_natCast, true_and, hle]
    exact hst
section nw
variable {n T : Nat} {ws : List Int} {st : List Bool} {os : List RO} {ms : List Nat}
/-- One slid object more. -/
theorem slide_step (hc : Ch ws 0 os T) {os' : List RO} {q : Nat} {o : RO} (h : Ch (NWI T ws ms os) 0 os' (goI ms os q)) (ho : os[q]? = some o) (hl : lvB ms o = true) (wa : Option Addr) (wc : Nat) :
    Ch (NWI T ws ms os) 0 (os' ++ [⟨goI ms os q, o.k, o.p, fwL ms os o, wa, wc⟩]) (goI ms os (q + 1)) := by
  have hat := (hc.at ho).2
  have h1 := goI_succ (ms := ms) ho
  rw [hl, if_pos rfl] at h1
  have h2 := h.snoc (o := ⟨goI ms os q, o.k, o.p, fwL ms os o, wa, wc⟩) rfl (by dsimp only; rw [fwL_len]; exact hat.2.1) (by
    have := NWI_obj (T := T) (ws := ws) ho hl (t := 0) (by omega)
    dsimp only
    rw [fwL_len]
    rw [Nat.add_zero] at this
    rw [this]; rfl) (fun t ht => by
    dsimp only at ht ⊢
    rw [fwL_len] at ht
    have := NWI_obj (T := T) (ws := ws) ho hl (t := t + 1) (by omega)
    rw [show goI ms os q + 1 + t = goI ms os q + (t + 1) by omega, this]
    rfl)
  dsimp only at h2
  rw [fwL_len] at h2
  rw [show goI ms os (q + 1) = goI ms os q + 1 + o.ws.length by omega]
  exact h2
theorem goI_dead {q : Nat} {o : RO} (ho : os[q]? = some o) (hl : lvB ms o = false) : goI ms os (q + 1) = goI ms os q := by
  have h1 := goI_succ (ms := ms) ho
  rw [hl] at h1
  simpa using h1
theorem goI_all {ms : List Nat} {os : List RO} : goI ms os os.length = szL (lvs ms os) := by unfold goI; rw [List.take_length]
theorem NWI_ch (hc : Ch ws 0 os T) : ∃ os', Ch (NWI T ws ms os) 0 os' (szL (lvs ms os)) := by
  have : ∀ q, q ≤ os.length → ∃ os', Ch (NWI T ws ms os) 0 os' (goI ms os q) := by
    intro q
    induction q with
    | zero => intro _; exact ⟨[], rfl⟩
    | succ q ih =>
      intro hq
      obtain ⟨os', h⟩ := ih (by omega)
      have ho : os[q]? = some os[q] := List.getElem?_eq_getElem _
      cases hl : lvB ms os[q] with
      | true => exact ⟨_, slide_step hc h ho hl none 0⟩
      | false => exact ⟨os', by rw [goI_dead ho hl]; exact h⟩
  have := this os.length (Nat.le_refl _)
  rw [goI_all] at this
  exact this
theorem fwI_64 (h : HT n T ws st) (hc : Ch ws 0 os T) (z : Int) : In64 (fwI ms os z) := by
  have htn := h.tn
  have hnb := h.nb
  have hs := hc.sz
  unfold fwI
  split
  · rename_i j _
    have := goI_bd (ms := ms) (os := os) (q := j)
    unfold In64; omega
  · unfold In64; decide
theorem NWI_64 (h : HT n T ws st) (hc : Ch ws 0 os T) : ∀ y ∈ NWI T ws ms os, In64 y := by
  intro y hy
  unfold NWI at hy
  rcases List.mem_append.1 hy with hy | hy
  · obtain ⟨o, ho, hy⟩ := List.mem_flatMap.1 hy
    obtain ⟨j, hj⟩ := List.getElem?_of_mem (List.mem_filter.1 ho).1
    have hat := (hc.at hj).2
    unfold nwO at hy
    rcases List.mem_cons.1 hy with rfl | hy
    · exact (packI_un hat.2.1).1
    · unfold fwL at hy
      obtain ⟨t, ht, rfl⟩ := List.mem_map.1 hy
      have ht := List.mem_range.1 ht
      split
      · exact fwI_64 h hc _
      · rw [List.getD_eq_getElem?_getD, List.getElem?_eq_getElem ht]
        exact Ch.mem64 h hc (List.mem_of_getElem? hj) (List.getElem?_eq_getElem ht)
  · rcases List.mem_append.1 hy with hy | hy
    · rw [List.eq_of_mem_replicate hy]; unfold In64; decide
    · exact h.w64 y (List.mem_of_mem_drop hy)
end nw
section ops
variable {ps pf p bw bs pm bm bst bf n T w nR pw bw2 pz bz wc : Nat} {wa : Option Addr} {mv tv : Int} {ws : List Int} {st : List Bool} {os : List RO} {ms : List Nat} {rs : List RG} {fs wds sts : List Int} {xs : List WX} {C D : Nat} {Q A Z : Nat → Nat}
set_option maxHeartbeats 8000000 in
/-- Not over yet. -/
theorem Heap14_no (F : SF n T w nR ws st os ms rs fs) (h : SI n T w nR ws os ms xs sts wds mv C D Q A Z) (hno : ¬ OverP sts nR (partsI T (szL (lvs ms os)) : Nat)) :
    Does Try.prog 22 [ptr ps 0] (sldS ps pf p bw bs pm bm bst bf n T w nR pw bw2 pz bz ws st ms rs fs wa wc (szL (lvs ms os)) sts wds xs mv tv)
    (fun v l => v = .tuple #[.pointer none, .int .i64 9] ∧ l = sldS ps pf p bw bs pm bm bst bf n T w nR pw bw2 pz bz ws st ms rs fs wa wc (szL (lvs ms os)) sts wds xs mv tv) := by
  have hsl := h.sl
  have hnR := F.nRT
  have htn := F.h.tn
  have hn6 := F.n6
  refine Does.of tiok Try.func22 (by kernel_rfl) rfl Try.ntmps22 rfl ?_
  intro W fr
  repeat' (first | (refine IsO ?_; first | refine JO_nil ?_ | refine V1 rfl rfl rfl ?_) | (refine IsAt ?_; (with_reducible first | refine T1 ?_ | refine T2 ?_)) | (refine IsJ ?_; first | refine J_seq ?_ | refine J_region ?_ | refine J_ret ?_ | (refine IsCond ?_; refine J_cond_t rfl ?_)))
  refine JO_l (OL_call [0, 0, 0, 0, 0, 0, 0, 0, 0, 0, 0, 0, 0, 0] rfl rfl rfl (Over_spec hsl (by omega)) rfl) rfl rfl ?_
  rintro _ _ ⟨_, ⟨t, ht2, rfl, rfl⟩, rfl⟩
  obtain rfl : t = false := by
    cases t with
    | false => rfl
    | true => exact absurd (ht2.1 rfl) hno
  repeat' (first | (refine IsO ?_; first | refine JO_nil ?_ | refine V1 rfl rfl rfl ?_) | (refine IsAt ?_; (with_reducible first | refine T1 ?_ | refine T2 ?_)) | (refine IsJ ?_; first | refine J_seq ?_ | refine J_region ?_ | refine J_ret ?_ | (refine IsCond ?_; refine J_cond_t rfl ?_)))
  exact At_ret rfl rfl (.tmp rfl (.tmp rfl .nil)) rfl (is := [0, 0, 0, 0, 0, 0, 0, 0, 0, 0, 0, 0, 0, 0]) rfl ⟨rfl, rfl⟩
set_option maxHeartbeats 16000000 in
/-- Over: the heap of what stays. -/
theorem Heap14_ok (F : SF n T w nR ws st os ms rs fs) (h1n : 1 ≤ n) (h : SI n T w nR ws os ms xs sts wds mv C D Q A Z) (ho : OverP sts nR (partsI T (szL (lvs ms os)) : Nat)) :
    Does Try.prog 22 [ptr ps 0] (sldS ps pf p bw bs pm bm bst bf n T w nR pw bw2 pz bz ws st ms rs fs wa wc (szL (lvs ms os)) sts wds xs mv tv)
    (fun v l => ∃ (p' bw' bs' : Nat) (st' : List Bool), HT n (szL (lvs ms os)) (NWI T ws ms os) st' ∧ v = .tuple #[ptr p' 0, .int .i64 0] ∧ l = heapL p' bw' bs' n (NWI T ws ms os) (szL (lvs ms os)) st' ++ sldS ps pf p bw bs pm bm bst bf n T w nR pw bw2 pz bz ws st ms rs fs wa wc (szL (lvs ms os)) sts wds xs mv tv) := by
  have hsl := h.sl
  have hnR := F.nRT
  have htn := F.h.tn
  have hn6 := F.n6
  have hsz := F.hsz
  obtain ⟨hwd, _⟩ := h.over F.hc F.hR F.hF.w1 F.h.wl htn ho
  have hNl := NWI_len (ms := ms) F.hc F.h.wl htn
  subst hwd
  refine Does.of tiok Try.func22 (by kernel_rfl) rfl Try.ntmps22 rfl ?_
  intro W fr
  repeat' (first | (refine IsO ?_; first | refine JO_nil ?_ | refine V1 rfl rfl rfl ?_) | (refine IsAt ?_; (with_reducible refine T1 ?_)) | (refine IsJ ?_; first | refine J_seq ?_ | refine J_region ?_ | refine J_skip ?_ | refine J_ret ?_ | (refine IsCond ?_; refine J_cond_f rfl ?_)))
  refine JO_l (OL_call [0, 0, 0, 0, 0, 0, 0, 0, 0, 0, 0, 0, 0, 0] rfl rfl rfl (Over_spec hsl (by omega)) rfl) rfl rfl ?_
  rintro _ _ ⟨_, ⟨t, ht2, rfl, rfl⟩, rfl⟩
  obtain rfl : t = true := ht2.2 ho
  repeat' (first | (refine IsO ?_; first | refine JO_nil ?_ | refine V1 rfl rfl rfl ?_) | (refine IsAt ?_; (with_reducible refine T1 ?_)) | (refine IsJ ?_; first | refine J_seq ?_ | refine J_region ?_ | refine J_skip ?_ | refine J_ret ?_ | (refine IsCond ?_; refine J_cond_f rfl ?_)))
  refine J_drawk [sdB ps pf p pw pz wa xs.length wc (partsI T (szL (lvs ms os)) : Nat) mv tv] (fun H hl => hl.pick (is := [0]) rfl) [0, 0, 0, 5, 2, 0, 0, 0, 5, 2, 2, 0, 0, 0, 0] [0, 1, 2, 3, 5, 6, 7, 8, 4, 9, 10, 11, 12, 13, 14] (by kernel_rfl) (by kernel_rfl) ?_
  repeat' (refine IsX ?_; first | (refine JX_nil ?_; refine At_np ?_) | (refine JX_op rfl ?_; refine XsO ?_; first | (refine XsLoad ?_; refine XL1k rfl rfl rfl rfl rfl ?_) | refine XV1 rfl rfl rfl rfl ?_))
  refine JX_lk rfl rfl (OL_call [4] rfl rfl rfl (CellsWords_z (p := pw) (bw := bw2) (ws := NWI T ws ms os) (by omega)) rfl) rfl rfl ?_ ?_
  · rintro _ _ ⟨_, ⟨_, _, _, rfl, rfl⟩, rfl⟩ H hl
    exact hl.pick (is := [2]) rfl
  rintro _ _ ⟨_, ⟨a1, cap1, hn1, rfl, rfl⟩, rfl⟩ _
  refine JX_lk rfl rfl (OL_call [9, 6, 6, 6, 6, 6, 6, 6, 6] rfl rfl rfl (FwdTop_spec F.hF) rfl) rfl rfl ?_ ?_
  · rintro _ _ ⟨_, ⟨rfl, rfl⟩, rfl⟩ H hl
    exact hl.pick (is := [11]) rfl
  rintro _ _ ⟨_, ⟨rfl, rfl⟩, rfl⟩ _
  have hR1 : Reads (rowz 3 1 a1 (NWI T ws ms os).length cap1 (intsV (NWI T ws ms os))) 1 (NWI T ws ms os).length a1 cap1 (intsV (NWI T ws ms os)) := Reads.rowz (by simp [intsV]) hn1
  have hOf := Of_spec hR1 (NWI_64 F.h F.hc) (szL (lvs ms os)) (by omega) (by omega) (by omega)
  obtain ⟨os', hos'⟩ := NWI_ch (ms := ms) F.hc
  obtain ⟨st', hst'⟩ := ofF_ch (f := szL (lvs ms os) + 1) (st := List.replicate (NWI T ws ms os).length false) hos' (by omega)
  have hHT := of_tell (NWI_64 F.h F.hc) (by omega) (by omega) hst'
  rw [hst'] at hOf
  refine JX_lk rfl rfl (OL_call [9] rfl rfl rfl hOf rfl) rfl rfl ?_ ?_
  · rintro _ _ ⟨_, ⟨_, _, _, rfl, rfl⟩, rfl⟩ H hl
    exact hl.pick (is := [14]) rfl
  rintro _ _ ⟨_, ⟨p', bw', bs', rfl, rfl⟩, rfl⟩ _
  repeat' (refine IsX ?_; first | (refine JX_nil ?_; refine At_np ?_) | (refine JX_op rfl ?_; refine XsO ?_; first | (refine XsLoad ?_; refine XL1k rfl rfl rfl rfl rfl ?_) | refine XV1 rfl rfl rfl rfl ?_))
  repeat' (first | (refine IsO ?_; first | refine JO_nil ?_ | refine V1 rfl rfl rfl ?_) | (refine IsAt ?_; (with_reducible refine T1 ?_)) | (refine IsJ ?_; first | refine J_seq ?_ | refine J_region ?_ | refine J_skip ?_ | refine J_ret ?_ | (refine IsCond ?_; refine J_cond_f rfl ?_)))
  rw [hNl] at hHT
  refine At_ret' rfl rfl (.tmp rfl (.tmp rfl .nil)) rfl (fun H hl => ?_) ⟨p', bw', bs', st', hHT, rfl, rfl⟩
  rw [hNl] at hl
  exact hl.pick (is := [0, 0, 0, 11, 11, 11, 11, 10, 2, 2, 2, 1, 1, 1, 1, 1, 1]) rfl
end ops
end Go.Proofs.Ytahfnbpbdnmggaa
/-
  Our own: a sliding that runs: one state of it, its steps, rounds in which each worker steps once.
-/
set_option linter.unusedVariables false
set_option linter.unusedSimpArgs false
namespace Go.Proofs.Ytahfnbpbdnmggaa
open Go.Sep
/-- A state of a sliding. -/
structure RSt where
  xs : List WX
  sts : List Int
  wds : List Int
  mv : Int
  tv : Int
  C : Nat
  D : Nat
abbrev RPhi (T w nR : Nat) (ws : List Int) (os : List RO) (ms : List Nat) (s : RSt) : Nat := PhiI T w nR ws os ms s.xs s.C s.D
abbrev ROv (T nR : Nat) (os : List RO) (ms : List Nat) (s : RSt) : Prop := OverP s.sts nR (partsI T (szL (lvs ms os)) : Nat)
structure ROk (n T w nR : Nat) (ws : List Int) (os : List RO) (ms : List Nat) (W : Nat) (s : RSt) : Prop where
  si : ∃ Q A Z, SI n T w nR ws os ms s.xs s.sts s.wds s.mv s.C s.D Q A Z
  xl : s.xs.length = W
  t0 : 0 ≤ s.tv
  cd : s.C + s.D + RPhi T w nR ws os ms s ≤ 1000000000
/-- In a round: over, or less is left than at its beginning, or nobody of those who stepped gets on. -/
def RRnd (T w nR : Nat) (ws : List Int) (os : List RO) (ms : List Nat) (s : RSt) (m0 : Nat) (P : Nat → Prop) : Prop :=
  ROv T nR os ms s ∨ RPhi T w nR ws os ms s < m0 ∨ (RPhi T w nR ws os ms s ≤ m0 ∧ ∀ (j : Nat) (x : WX), P j → s.xs[j]? = some x → Stk nR s.sts x)
/-- What a step comes to. -/
def RNx (T w nR : Nat) (ws : List Int) (os : List RO) (ms : List Nat) (s s' : RSt) (j : Nat) : Prop :=
  (ROv T nR os ms s ∧ s' = s) ∨ (¬ ROv T nR os ms s ∧ (s'.tv = s.tv ∨ s'.tv = s.tv + 1) ∧ (RPhi T w nR ws os ms s' < RPhi T w nR ws os ms s ∨ (s'.xs = s.xs ∧ s'.sts = s.sts ∧ s'.C = s.C ∧ s'.D = s.D ∧ ∀ x, s.xs[j]? = some x → Stk nR s.sts x)))
theorem RRnd.step {T w nR : Nat} {ws : List Int} {os : List RO} {ms : List Nat} {s s' : RSt} {m0 j : Nat} {P P' : Nat → Prop} (h : RRnd T w nR ws os ms s m0 P) (hn : RNx T w nR ws os ms s s' j) (hP : ∀ i, P' i → P i ∨ i = j) : RRnd T w nR ws os ms s' m0 P' := by
  rcases hn with ⟨ho, rfl⟩ | ⟨hno, _, hlt | ⟨e1, e2, e3, e4, hk⟩⟩
  · exact .inl ho
  · rcases h with ho | h1 | ⟨h1, _⟩
    · exact absurd ho hno
    · exact .inr (.inl (by omega))
    · exact .inr (.inl (by omega))
  · have ep : RPhi T w nR ws os ms s' = RPhi T w nR ws os ms s := by unfold RPhi; rw [e1, e3, e4]
    rcases h with ho | h1 | ⟨h1, h2⟩
    · exact absurd ho hno
    · exact .inr (.inl (by omega))
    · refine .inr (.inr ⟨by omega, fun i x hi hx => ?_⟩)
      rw [e1] at hx
      rw [e2]
      rcases hP i hi with hi | rfl
      · exact h2 i x hi hx
      · exact hk x hx
theorem RRnd.done {n T w nR W : Nat} {ws : List Int} {os : List RO} {ms : List Nat} {s : RSt} {m0 : Nat} {P : Nat → Prop} (h : RRnd T w nR ws os ms s m0 P) (hs : ROk n T w nR ws os ms W s) (h1 : 1 ≤ W) (hP : ∀ j, j < W → P j) : ROv T nR os ms s ∨ RPhi T w nR ws os ms s < m0 := by
  rcases h with ho | h1 | ⟨_, h2⟩
  · exact .inl ho
  · exact .inr h1
  · obtain ⟨Q, A, Z, hS⟩ := hs.si
    exact .inl (hS.stuck (by rw [hs.xl]; exact h1) fun j x hj => h2 j x (hP j (by have := (List.getElem?_eq_some_iff.1 hj).1; rw [hs.xl] at this; exact this)) hj)
section ops
variable {ps pf p bw bs pm bm bst bf n T w nR pw bw2 pz bz wc W : Nat} {wa : Option Addr} {ws : List Int} {st : List Bool} {os : List RO} {ms : List Nat} {rs : List RG} {fs : List Int} {s : RSt}
abbrev sldR (ps pf p bw bs pm bm bst bf n T w nR pw bw2 pz bz : Nat) (ws : List Int) (st : List Bool) (ms : List Nat) (rs : List RG) (fs : List Int) (wa : Option Addr) (wc : Nat) (S : Nat) (s : RSt) : List HP :=
  sldS ps pf p bw bs pm bm bst bf n T w nR pw bw2 pz bz ws st ms rs fs wa wc S s.sts s.wds s.xs s.mv s.tv
theorem Step_run (F : SF n T w nR ws st os ms rs fs) (hs : ROk n T w nR ws os ms W s) (hW : W ≤ 64) {j : Nat} (hj : j < W) (ht : In64 (s.tv + 1)) :
    Does Try.prog 21 [ptr ps 0, .int .i64 j] (sldR ps pf p bw bs pm bm bst bf n T w nR pw bw2 pz bz ws st ms rs fs wa wc (szL (lvs ms os)) s)
    (fun v l => ∃ (s' : RSt) (e : Int), ROk n T w nR ws os ms W s' ∧ RNx T w nR ws os ms s s' j ∧ ((ROv T nR os ms s ∧ e = 12) ∨ (¬ ROv T nR os ms s ∧ e = 0)) ∧ v = .int .i64 e ∧
      l = sldR ps pf p bw bs pm bm bst bf n T w nR pw bw2 pz bz ws st ms rs fs wa wc (szL (lvs ms os)) s') := by
  obtain ⟨⟨Q, A, Z, hS⟩, hxl, ht0, hcd⟩ := hs
  have hsl := hS.sl
  have hnR := F.nRT
  have htn := F.h.tn
  have hn6 := F.n6
  obtain ⟨x, hx⟩ : ∃ x, s.xs[j]? = some x := ⟨s.xs[j]'(by omega), List.getElem?_eq_getElem _⟩
  by_cases ho : ROv T nR os ms s
  · refine (SlStep_end ⟨by omega, by omega⟩ hsl (by omega) ho).mono ?_
    rintro v l ⟨rfl, rfl⟩
    exact ⟨s, 12, ⟨⟨Q, A, Z, hS⟩, hxl, ht0, hcd⟩, .inl ⟨ho, rfl⟩, .inl ⟨ho, rfl⟩, rfl, rfl⟩
  · refine (Step_spec F hS hx (by omega) ht hcd ho).mono ?_
    rintro v l ⟨x', sts', wds', mv', tv', C', D', ⟨⟨Q', A', Z', hS'⟩, g1, g2, g3, g4⟩, rfl, rfl⟩
    refine ⟨⟨s.xs.set j x', sts', wds', mv', tv', C', D'⟩, 0, ⟨⟨Q', A', Z', hS'⟩, by rw [List.length_set]; exact hxl, by dsimp only; omega, Nat.le_trans g2 hcd⟩, .inr ⟨ho, g1, ?_⟩, .inr ⟨ho, rfl⟩, rfl, rfl⟩
    rcases g4 with g4 | ⟨k1, rfl, k3, k4, k5⟩
    · exact .inl g4
    · refine .inr ⟨set_sameV hx, k3, k4, k5, fun y hy => ?_⟩
      rw [hx] at hy; injection hy with hy; rw [← hy]; exact k1
/-- At the beginning. -/
theorem Phi_new {xs : List WX} (hxs : ∀ (j : Nat) (y : WX), xs[j]? = some y → y = wk0 j y.c) (hc : Ch ws 0 os T) (hR : nR = numR w T) (h1w : 1 ≤ w) (htn : T ≤ n) (hW : xs.length ≤ 64) : PhiI T w nR ws os ms xs 0 0 < 10 * (n + 10) * (n + 10) := by
  have hnR : nR ≤ n := by rw [hR]; exact Nat.le_trans (numR_le h1w) htn
  have hs := hc.sz
  have h2 : szL (lvs ms os) ≤ szL os := szL_filter
  have h3 := len_le_sz (L := lvs ms os)
  have a1 : ∀ m, m ≤ nR → ((List.range m).map (cRI w nR (lvs ms os))).sum ≤ m * (nR + 4) + (befR w m (lvs ms os)).length + 2 * szL (befR w m (lvs ms os)) := by
    intro m
    induction m with
    | zero => intro _; exact Nat.zero_le _
    | succ m ih =>
      intro hm
      have h1 := ih (by omega)
      rw [List.range_succ, List.map_append, List.sum_append]
      simp only [List.map_cons, List.map_nil, List.sum_cons, List.sum_nil]
      rw [befR_len, befR_next, Nat.succ_mul]
      rw [show cRI w nR (lvs ms os) m = nR + 4 + (inR w m (lvs ms os)).length + 2 * lvI w (lvs ms os) m from rfl]
      have : lvI w (lvs ms os) m = szL (inR w m (lvs ms os)) := rfl
      omega
  have a2 := a1 nR (Nat.le_refl _)
  rw [hR, befR_all ms h1w hc, ← hR] at a2
  have a3 : (xs.map (phiW nR ws)).sum ≤ 64 * (nR + 5) := by
    have : ∀ l : List WX, (∀ y ∈ l, y.fn = fnC) → (l.map (phiW nR ws)).sum = l.length * (nR + 5) := by
      intro l
      induction l with
      | nil => intro _; simp
      | cons y r ih =>
        intro hl
        rw [List.map_cons, List.sum_cons, ih fun z hz => hl z (.tail _ hz), phi_C (hl y (.head _)), List.length_cons, Nat.succ_mul]
        omega
    rw [this xs fun y hy => by
      obtain ⟨i, hi⟩ := List.getElem?_of_mem hy
      rw [hxs i y hi]]
    exact Nat.mul_le_mul_right _ hW
  have a4 : nR * (nR + 4) ≤ n * (n + 4) := Nat.mul_le_mul hnR (by omega)
  have a5 : partsI T (szL (lvs ms os)) ≤ n + 1 := by unfold partsI; omega
  have a6 : 10 * (n + 10) * (n + 10) = 10 * (n * n) + 200 * n + 1000 := by
    rw [Nat.mul_assoc, Nat.add_mul, Nat.mul_add, Nat.mul_add]
    omega
  have a7 : n * (n + 4) = n * n + n * 4 := Nat.mul_add ..
  rw [a7] at a4
  unfold PhiI
  rw [List.drop_zero]
  omega
end ops
end Go.Proofs.Ytahfnbpbdnmggaa
/-
  Our own: a sliding that runs: how it begins; what it tells.
-/
set_option linter.unusedVariables false
set_option linter.unusedSimpArgs false
namespace Go.Proofs.Ytahfnbpbdnmggaa
open Go.Sep
section ops
variable {ps pf p bw bs pm bm bst bf n T w nR pw bw2 pz bz wc W : Nat} {wa : Option Addr} {ws : List Int} {st : List Bool} {os : List RO} {ms : List Nat} {rs : List RG} {fs : List Int} {s : RSt}
theorem New_run (words : Int) (wk : Nat) (hw : 1 ≤ wk ∧ wk ≤ 64) (h64 : In64 words) (h : HT n T ws st) (hc : Ch ws 0 os T) (hM : MI n ms) (hld : LeadP os) (hyes : RightP ms os) (hn1 : 1 ≤ n) (hn2 : n ≤ 5000) :
    Does Try.prog 13 [ptr p 0, ptr pm 0, .int .i64 words, .int .i64 wk] (heapL p bw bs n ws T st ++ marksL pm bm n ms)
    (fun v l => ∃ (ps pf w nR bst bf pw bw2 pz bz : Nat) (rs : List RG) (fs : List Int) (wa : Option Addr) (wc : Nat) (s : RSt), SF n T w nR ws st os ms rs fs ∧ ROk n T w nR ws os ms wk s ∧ RPhi T w nR ws os ms s < 10 * (n + 10) * (n + 10) ∧ s.tv = 0 ∧ s.mv = 0 ∧
      v = .tuple #[ptr ps 0, .int .i64 0] ∧ l = sldR ps pf p bw bs pm bm bst bf n T w nR pw bw2 pz bz ws st ms rs fs wa wc (szL (lvs ms os)) s) := by
  refine (SliderNew_ok words wk hw h64 h hc hM hld hyes hn1).mono ?_
  rintro v l ⟨ps, pf, w, nR, bst, bf, pw, bw2, pz, bz, rs, fs, wa, wc, xs, hw2, hF, hnR, hxl, hxs, rfl, rfl⟩
  have hs := hc.sz
  have h2 : szL (lvs ms os) ≤ szL os := szL_filter
  have hP := Phi_new (ms := ms) hxs hc hnR (by omega) h.tn (by omega)
  have hb : (n + 10) * (n + 10) ≤ 5010 * 5010 := Nat.mul_le_mul (by omega) (by omega)
  have e : ((T : Int) - ((szL (lvs ms os) : Nat) : Int) + 16 - 1) / 16 = ((partsI T (szL (lvs ms os)) : Nat) : Int) := by unfold partsI; omega
  rw [e]
  have hP2 : PhiI T w nR ws os ms xs 0 0 < 10 * ((n + 10) * (n + 10)) := by rw [← Nat.mul_assoc]; exact hP
  exact ⟨ps, pf, w, nR, bst, bf, pw, bw2, pz, bz, rs, fs, wa, wc, ⟨xs, List.replicate (3 + nR) 0, ws, 0, 0, 0, 0⟩, ⟨h, hc, hM, hF, hnR, hyes, by omega⟩, ⟨⟨_, _, _, SI.new h.wl hxs⟩, hxl, Int.le_refl _, by show 0 + 0 + PhiI T w nR ws os ms xs 0 0 ≤ _; omega⟩, hP, rfl, rfl, rfl, rfl⟩
theorem Over_run (F : SF n T w nR ws st os ms rs fs) (hs : ROk n T w nR ws os ms W s) : Does Try.prog 20 [ptr ps 0] (sldR ps pf p bw bs pm bm bst bf n T w nR pw bw2 pz bz ws st ms rs fs wa wc (szL (lvs ms os)) s)
    (fun v l => ∃ t : Bool, (t = true ↔ ROv T nR os ms s) ∧ v = .bool t ∧ l = sldR ps pf p bw bs pm bm bst bf n T w nR pw bw2 pz bz ws st ms rs fs wa wc (szL (lvs ms os)) s) := by
  obtain ⟨Q, A, Z, hS⟩ := hs.si
  have hnR := F.nRT
  have htn := F.h.tn
  have hn6 := F.n6
  exact Over_spec hS.sl (by omega)
theorem Heap_run (F : SF n T w nR ws st os ms rs fs) (h1n : 1 ≤ n) (hs : ROk n T w nR ws os ms W s) (ho : ROv T nR os ms s) : Does Try.prog 22 [ptr ps 0] (sldR ps pf p bw bs pm bm bst bf n T w nR pw bw2 pz bz ws st ms rs fs wa wc (szL (lvs ms os)) s)
    (fun v l => ∃ (p' bw' bs' : Nat) (st' : List Bool), HT n (szL (lvs ms os)) (NWI T ws ms os) st' ∧ v = .tuple #[ptr p' 0, .int .i64 0] ∧ l = heapL p' bw' bs' n (NWI T ws ms os) (szL (lvs ms os)) st' ++ sldR ps pf p bw bs pm bm bst bf n T w nR pw bw2 pz bz ws st ms rs fs wa wc (szL (lvs ms os)) s) := by
  obtain ⟨Q, A, Z, hS⟩ := hs.si
  exact Heap14_ok F h1n hS ho
theorem Heap_run_no (F : SF n T w nR ws st os ms rs fs) (hs : ROk n T w nR ws os ms W s) (hno : ¬ ROv T nR os ms s) : Does Try.prog 22 [ptr ps 0] (sldR ps pf p bw bs pm bm bst bf n T w nR pw bw2 pz bz ws st ms rs fs wa wc (szL (lvs ms os)) s)
    (fun v l => v = .tuple #[.pointer none, .int .i64 9] ∧ l = sldR ps pf p bw bs pm bm bst bf n T w nR pw bw2 pz bz ws st ms rs fs wa wc (szL (lvs ms os)) s) := by
  obtain ⟨Q, A, Z, hS⟩ := hs.si
  exact Heap14_no F hS hno
end ops
end Go.Proofs.Ytahfnbpbdnmggaa
/-
  Our own: a step of a sliding as the law SliderSlides takes it: one cell at most, no error, no more moved than stay.
-/
set_option linter.unusedVariables false
set_option linter.unusedSimpArgs false
namespace Go.Proofs.Ytahfnbpbdnmggaa
open Go.Sep
section ops
variable {ps pf p bw bs pm bm bst bf n T w nR pw bw2 pz bz wc W c1 c2 c3 : Nat} {wa : Option Addr} {ws : List Int} {st : List Bool} {os : List RO} {ms : List Nat} {rs : List RG} {fs : List Int} {s : RSt}
theorem Mv_run (F : SF n T w nR ws st os ms rs fs) (hs : ROk n T w nR ws os ms W s) : 0 ≤ s.mv ∧ s.mv ≤ ((lvs ms os).length : Nat) := by
  obtain ⟨Q, A, Z, hS⟩ := hs.si
  exact hS.mv_le F.hc F.hR F.hF.w1
set_option maxHeartbeats 16000000 in
theorem Slides1_spec (F : SF n T w nR ws st os ms rs fs) (hs : ROk n T w nR ws os ms W s) (hW : W ≤ 64) {j : Nat} (hj : j < W) (ht : In64 (s.tv + 1)) :
    Does Try.prog 27 [.int .i64 j, ptr c1 0, ptr c2 0, ptr c3 0] (blk c1 [ptr ps 0] 48 :: blk c2 [.int .i64 s.tv] 3 :: blk c3 [.int .i64 ((lvs ms os).length : Nat)] 3 :: sldR ps pf p bw bs pm bm bst bf n T w nR pw bw2 pz bz ws st ms rs fs wa wc (szL (lvs ms os)) s)
    (fun v l => ∃ s', ROk n T w nR ws os ms W s' ∧ RNx T w nR ws os ms s s' j ∧ v = .bool true ∧
      l = blk c1 [ptr ps 0] 48 :: blk c2 [.int .i64 s'.tv] 3 :: blk c3 [.int .i64 ((lvs ms os).length : Nat)] 3 :: sldR ps pf p bw bs pm bm bst bf n T w nR pw bw2 pz bz ws st ms rs fs wa wc (szL (lvs ms os)) s') := by
  refine Does.of tiok Try.func27 (by kernel_rfl) rfl Try.ntmps27 rfl ?_
  intro W' fr
  obtain ⟨ht1, ht2⟩ := id ht
  repeat' (first | (refine IsO ?_; first | refine JO_nil ?_ | (refine IsMove ?_; refine M4 rfl rfl rfl ?_) | (refine IsLoad ?_; refine L1 rfl rfl rfl rfl ?_) | refine V1 rfl rfl rfl ?_) | (refine IsAt ?_; (with_reducible first | refine T1 ?_ | refine T2 ?_)) | (refine IsJ ?_; first | refine J_seq ?_ | refine J_region ?_ | refine J_skip ?_ | refine J_ret ?_ | (refine IsCond ?_; first | refine J_cond_t rfl ?_ | refine J_cond_f rfl ?_)))
  refine JO_l (OL_call [3, 3, 3, 3, 3, 3, 3, 3, 3, 3, 3, 3, 3, 3] rfl rfl rfl (Over_run F hs) rfl) rfl rfl ?_
  rintro _ _ ⟨_, ⟨t, hot, rfl, rfl⟩, rfl⟩
  cases t with
  | true =>
    have ho := hot.1 rfl
    repeat' (first | (refine IsO ?_; first | refine JO_nil ?_ | (refine IsMove ?_; refine M4 rfl rfl rfl ?_) | (refine IsLoad ?_; refine L1 rfl rfl rfl rfl ?_) | refine V1 rfl rfl rfl ?_) | (refine IsAt ?_; (with_reducible first | refine T1 ?_ | refine T2 ?_)) | (refine IsJ ?_; first | refine J_seq ?_ | refine J_region ?_ | refine J_skip ?_ | refine J_ret ?_ | (refine IsCond ?_; first | refine J_cond_t rfl ?_ | refine J_cond_f rfl ?_)))
    refine JO_l (OL_call [0, 0, 0, 0, 0, 0, 0, 0, 0, 0, 0, 0, 0, 0] rfl rfl rfl (Step_run F hs hW hj ht) rfl) rfl rfl ?_
    rintro _ _ ⟨_, ⟨s2, e, hs2, hnx, he, rfl, rfl⟩, rfl⟩
    obtain rfl : e = 12 := by
      rcases he with ⟨_, he⟩ | ⟨h1, _⟩
      · exact he
      · exact absurd ho h1
    have htv : s2 = s := by
      rcases hnx with ⟨_, h⟩ | ⟨h1, _⟩
      · exact h
      · exact absurd ho h1
    subst htv
    repeat' (first | (refine IsO ?_; first | refine JO_nil ?_ | (refine IsMove ?_; refine M4 rfl rfl rfl ?_) | (refine IsLoad ?_; refine L1 rfl rfl rfl rfl ?_) | refine V1 rfl rfl rfl ?_) | (refine IsAt ?_; (with_reducible first | refine T1 ?_ | refine T2 ?_)) | (refine IsJ ?_; first | refine J_seq ?_ | refine J_region ?_ | refine J_skip ?_ | refine J_ret ?_ | (refine IsCond ?_; first | refine J_cond_t rfl ?_ | refine J_cond_f rfl ?_)))
    exact At_ret rfl rfl (.tmp rfl .nil) rfl (is := [14, 14, 14, 0, 0, 0, 0, 0, 0, 0, 0, 0, 0, 0, 0, 0, 0]) rfl ⟨s2, hs2, hnx, rfl, rfl⟩
  | false =>
    have hno : ¬ ROv T nR os ms s := fun e => absurd (hot.2 e) (by decide)
    repeat' (first | (refine IsO ?_; first | refine JO_nil ?_ | (refine IsMove ?_; refine M4 rfl rfl rfl ?_) | (refine IsLoad ?_; refine L1 rfl rfl rfl rfl ?_) | refine V1 rfl rfl rfl ?_) | (refine IsAt ?_; (with_reducible first | refine T1 ?_ | refine T2 ?_)) | (refine IsJ ?_; first | refine J_seq ?_ | refine J_region ?_ | refine J_skip ?_ | refine J_ret ?_ | (refine IsCond ?_; first | refine J_cond_t rfl ?_ | refine J_cond_f rfl ?_)))
    refine JO_l (OL_call [0, 0, 0, 0, 0, 0, 0, 0, 0, 0, 0, 0, 0, 0] rfl rfl rfl (Heap_run_no F hs hno) rfl) rfl rfl ?_
    rintro _ _ ⟨_, ⟨rfl, rfl⟩, rfl⟩
    repeat' (first | (refine IsO ?_; first | refine JO_nil ?_ | (refine IsMove ?_; refine M4 rfl rfl rfl ?_) | (refine IsLoad ?_; refine L1 rfl rfl rfl rfl ?_) | refine V1 rfl rfl rfl ?_) | (refine IsAt ?_; (with_reducible first | refine T1 ?_ | refine T2 ?_)) | (refine IsJ ?_; first | refine J_seq ?_ | refine J_region ?_ | refine J_skip ?_ | refine J_ret ?_ | (refine IsCond ?_; first | refine J_cond_t rfl ?_ | refine J_cond_f rfl ?_)))
    refine JO_l (OL_call [0, 0, 0, 0, 0, 0, 0, 0, 0, 0, 0, 0, 0, 0] rfl rfl rfl (Step_run F hs hW hj ht) rfl) rfl rfl ?_
    rintro _ _ ⟨_, ⟨s2, e, hs2, hnx, he, rfl, rfl⟩, rfl⟩
    obtain rfl : e = 0 := by
      rcases he with ⟨h1, _⟩ | ⟨_, he⟩
      · exact absurd h1 hno
      · exact he
    have htv : s2.tv = s.tv ∨ s2.tv = s.tv + 1 := by
      rcases hnx with ⟨h1, _⟩ | ⟨_, h1, _⟩
      · exact absurd h1 hno
      · exact h1
    obtain ⟨hm0, hm1⟩ := Mv_run F hs2
    repeat' (first | (refine IsO ?_; first | refine JO_nil ?_ | (refine IsMove ?_; refine M4 rfl rfl rfl ?_) | (refine IsLoad ?_; refine L1 rfl rfl rfl rfl ?_) | refine V1 rfl rfl rfl ?_) | (refine IsAt ?_; (with_reducible first | refine T1 ?_ | refine T2 ?_)) | (refine IsJ ?_; first | refine J_seq ?_ | refine J_region ?_ | refine J_skip ?_ | refine J_ret ?_ | (refine IsCond ?_; first | refine J_cond_t rfl ?_ | refine J_cond_f rfl ?_)))
    refine JO_l (OL_call [0, 0, 0, 0, 0, 0, 0, 0, 0, 0, 0, 0, 0, 0] rfl rfl rfl SlTouches rfl) rfl rfl ?_
    rintro _ _ ⟨_, ⟨rfl, rfl⟩, rfl⟩
    repeat' (first | (refine IsO ?_; first | refine JO_nil ?_ | (refine IsMove ?_; refine M4 rfl rfl rfl ?_) | (refine IsLoad ?_; refine L1 rfl rfl rfl rfl ?_) | refine V1 rfl rfl rfl ?_) | (refine IsAt ?_; (with_reducible first | refine T1 ?_ | refine T2 ?_)) | (refine IsJ ?_; first | refine J_seq ?_ | refine J_region ?_ | refine J_skip ?_ | refine J_ret ?_ | (refine IsCond ?_; first | refine J_cond_t rfl ?_ | refine J_cond_f rfl ?_)))
    refine JO_l0 (OL_store (i := 15) rfl rfl rfl rfl rfl rfl rfl (by rfl)) rfl ?_
    rintro _ _ rfl
    repeat' (first | (refine IsO ?_; first | refine JO_nil ?_ | (refine IsMove ?_; refine M4 rfl rfl rfl ?_) | (refine IsLoad ?_; refine L1 rfl rfl rfl rfl ?_) | refine V1 rfl rfl rfl ?_) | (refine IsAt ?_; (with_reducible first | refine T1 ?_ | refine T2 ?_)) | (refine IsJ ?_; first | refine J_seq ?_ | refine J_region ?_ | refine J_skip ?_ | refine J_ret ?_ | (refine IsCond ?_; first | refine J_cond_t rfl ?_ | refine J_cond_f rfl ?_)))
    refine J_drawk [blk c1 [ptr ps 0] 48, blk c2 [.int .i64 s2.tv] 3, blk c3 [.int .i64 ((lvs ms os).length : Nat)] 3] (fun H hl => hl.pick (is := [15, 0, 14]) rfl) [5, 0, 0, 0, 5, 0, 0, 0, 0, 0, 5, 2, 5, 0, 0, 0] [0, 1, 2, 3, 4, 5, 6, 7, 8, 9, 10, 12, 11, 13, 14, 15] (by kernel_rfl) (by kernel_rfl) ?_
    repeat' (refine IsX ?_; first | (refine JX_nil ?_; refine At_np ?_) | (refine JX_op rfl ?_; refine XsO ?_; first | (refine XsMove ?_; refine XM1 rfl rfl rfl rfl ?_) | (refine XsBin ?_; refine XB1 rfl rfl rfl rfl rfl ?_) | (refine XsLoad ?_; refine XL1k rfl rfl rfl rfl rfl ?_) | refine XV1 rfl rfl rfl rfl ?_))
    refine JX_lk rfl rfl (OL_call [1, 1, 1, 1, 1, 1, 1, 1, 1, 1, 1, 1, 1, 1] rfl rfl rfl SlMoved rfl) rfl rfl ?_ ?_
    · rintro _ _ ⟨_, ⟨rfl, rfl⟩, rfl⟩ H hl
      exact hl.pick (is := [15, 14, 14]) rfl
    rintro _ _ ⟨_, ⟨rfl, rfl⟩, rfl⟩ _
    repeat' (refine IsX ?_; first | (refine JX_nil ?_; refine At_np ?_) | (refine JX_op rfl ?_; refine XsO ?_; first | (refine XsMove ?_; refine XM1 rfl rfl rfl rfl ?_) | (refine XsBin ?_; refine XB1 rfl rfl rfl rfl rfl ?_) | (refine XsLoad ?_; refine XL1k rfl rfl rfl rfl rfl ?_) | refine XV1 rfl rfl rfl rfl ?_))
    repeat' (first | (refine IsO ?_; first | refine JO_nil ?_ | (refine IsMove ?_; refine M4 rfl rfl rfl ?_) | (refine IsLoad ?_; refine L1 rfl rfl rfl rfl ?_) | refine V1 rfl rfl rfl ?_) | (refine IsAt ?_; (with_reducible first | refine T1 ?_ | refine T2 ?_)) | (refine IsJ ?_; first | refine J_seq ?_ | refine J_region ?_ | refine J_skip ?_ | refine J_ret ?_ | (refine IsCond ?_; first | refine J_cond_t rfl ?_ | refine J_cond_f rfl ?_)))
    exact At_ret rfl rfl (.tmp rfl .nil) rfl (is := [15, 14, 14, 0, 0, 0, 0, 0, 0, 0, 0, 0, 0, 0, 0, 0, 0]) rfl ⟨s2, hs2, hnx, by rw [decide_eq_true hm1]; rfl, rfl⟩
end ops
end Go.Proofs.Ytahfnbpbdnmggaa
/-
  Our own: the document's answer for layer 14 (besomref14.Slide).
-/
set_option linter.unusedVariables false
set_option linter.unusedSimpArgs false
namespace Go.Proofs.Ytahfnbpbdnmggaa
open Go.Sep
def mixW (A B : List Int) (k : Nat) : List Int := A.take k ++ B.drop k
theorem mixW_get {A B : List Int} {k t : Nat} (h : A.length = B.length) : (mixW A B k)[t]? = if t < k then A[t]? else B[t]? := by
  unfold mixW
  rw [List.getElem?_append, List.length_take, List.getElem?_take, List.getElem?_drop]
  by_cases h1 : t < k
  · simp only [if_pos h1]
    by_cases h2 : t < min k A.length
    · rw [if_pos h2]
    · rw [if_neg h2, List.getElem?_eq_none (l := A) (by omega), List.getElem?_eq_none (l := B) (by omega)]
  · simp only [if_neg h1]
    rw [if_neg (by omega)]
    by_cases h3 : k ≤ A.length
    · congr 1; omega
    · rw [List.getElem?_eq_none (l := B) (by omega), List.getElem?_eq_none (l := B) (by omega)]
theorem mixW_len {A B : List Int} {k : Nat} (h : A.length = B.length) : (mixW A B k).length = B.length := by
  unfold mixW
  rw [List.length_append, List.length_take, List.length_drop]
  omega
theorem mixW_set {A B : List Int} {k : Nat} {y : Int} (h : A.length = B.length) (hy : A[k]? = some y) : (mixW A B k).set k y = mixW A B (k + 1) := by
  have hk := (List.getElem?_eq_some_iff.1 hy).1
  apply List.ext_getElem?
  intro t
  rw [List.getElem?_set, mixW_len h, mixW_get h, mixW_get h]
  by_cases e : k = t
  · subst e
    rw [if_pos rfl, if_pos (by omega), if_pos (by omega), hy]
  · rw [if_neg e]
    by_cases h1 : t < k
    · rw [if_pos h1, if_pos (by omega)]
    · rw [if_neg h1, if_neg (by omega)]
theorem mixW_all {A B : List Int} {k : Nat} (h : A.length = B.length) (hs : ∀ t, k ≤ t → A[t]? = B[t]?) : mixW A B k = A := by
  apply List.ext_getElem?
  intro t
  rw [mixW_get h]
  by_cases h1 : t < k
  · rw [if_pos h1]
  · rw [if_neg h1, hs t (by omega)]
theorem fwL_rest {ms : List Nat} {os : List RO} {o : RO} {m t : Nat} (hm : o.p = (m : Int)) (ht : m ≤ t) : (fwL ms os o)[t]? = o.ws[t]? := by
  cases h : o.ws[t]? with
  | none => rw [List.getElem?_eq_none_iff] at h ⊢; rw [fwL_len]; exact h
  | some y => rw [fwL_at h, if_neg (by omega)]
section ops
variable {a : Option Addr} {cap : Nat} {os : List RO} {ms : List Nat} {sa : Option Addr} {sc : Nat} {Rs : HP} {n T : Nat} {ws : List Int} {st : List Bool}
set_option maxHeartbeats 32000000 in
theorem Slide14_spec (size : Int) (h : HT n T ws st) (hc : Ch ws 0 os T) (hr : RightP ms os) (hS : Reads Rs 1 os.length sa sc (stB ms os)) :
    Does Try.prog 29 [refV size a os.length cap, .slice sa os.length sc] (refL a cap os ++ [Rs])
    (fun v l => ∃ (os' : List RO) (a' : Option Addr) (cap' : Nat), Ch (NWI T ws ms os) 0 os' (szL (lvs ms os)) ∧ v = refV size a' os'.length cap' ∧ l = refL a' cap' os' ++ (refL a cap os ++ [Rs])) := by
  have htn := h.tn
  have hnb := h.nb
  have hlen := hc.len
  have hsz := hc.sz
  refine Does.of tiok Try.func29 (by kernel_rfl) rfl Try.ntmps29 rfl ?_
  intro W fr
  refine J_rowzf P0 ?_
  rintro ⟨hl, hn, hcp⟩
  have hR : Reads (objsZ a cap os) 5 os.length a cap (os.flatMap cellsO) := Reads.rowz hl hn
  refine J_fact (okW os) (fun w hs => RW_ok hs (.tail _ (.head _))) ?_
  intro ok
  repeat' (first | (refine IsO ?_; first | refine JO_nil ?_ | (refine IsBin ?_; refine B1 rfl rfl rfl rfl ?_) | (refine IsLoad ?_; first | refine L1 rfl rfl rfl rfl ?_ | refine L2 rfl rfl rfl rfl rfl ?_) | (refine IsStore ?_; refine S1 rfl rfl rfl rfl rfl rfl rfl (fun _ => ?_)) | (refine IsBox ?_; refine N1 rfl rfl rfl rfl (fun _ => ?_)) | (refine IsAlloc ?_; refine N2 rfl rfl rfl rfl (fun _ => ?_)) | (refine IsBuild ?_; refine U1 rfl rfl rfl rfl rfl rfl ?_) | refine V1 rfl rfl rfl ?_) | (refine IsAt ?_; first | (with_reducible first | refine T1 ?_ | refine T3 ?_ | refine T5 ?_ | refine T6 ?_) | ((with_reducible show At _ (PBlock _ _ (Exit.exit _)) _ _); refine At_block_hit ?_)) | (refine IsJ ?_; first | refine J_seq ?_ | refine J_region ?_ | refine J_block ?_ | refine J_skip ?_ | refine J_ret ?_ | refine J_exit ?_ | (refine IsCond ?_; first | refine J_cond_t rfl ?_ | refine J_cond_f rfl ?_ | refine J_cb rfl (fun _ => ?_) (fun _ => ?_))))
  rename_i bx b4 b5 _
  refine J_loop (α := Nat × List RO × Option Addr × Nat) (fun x => x.1 ≤ os.length ∧ Ch (NWI T ws ms os) 0 x.2.1 (goI ms os x.1))
    (fun x => [(1, .slice sa os.length sc), (2, ptr bx 0), (4, ptr b4 0), (5, ptr b5 0), (17, .int .i64 os.length), (18, .int .i64 x.1)])
    (fun x => row 47 5 x.2.2.1 x.2.1.length x.2.2.2 (x.2.1.flatMap cellsO) :: RW x.2.1 :: blk b5 [.int .i64 size, .slice x.2.2.1 x.2.1.length x.2.2.2] 33 :: blk bx [.int .i64 size, .slice a os.length cap] 33 :: blk b4 [.int .i64 0, .slice none 0 0] 33 :: (refL a cap os ++ [Rs]))
    (fun x => os.length - x.1) (0, [], none, 0) ⟨Nat.zero_le _, rfl⟩ (by repeat (first | exact True.intro | refine And.intro rfl ?_)) (fun H hl => ?_) ?_
  · exact (row_nil (T := 47) (sz := 5) (RW_nil hl)).pick (is := [0, 0, 0, 1, 0, 0, 0, 0]) rfl
  rintro ⟨q, os', a', cap'⟩ ⟨hq, hCh⟩
  dsimp only at hq hCh ⊢
  have hcl' := hCh.len
  repeat' (first | (refine IsO ?_; first | refine JO_nil ?_ | (refine IsBin ?_; refine B1 rfl rfl rfl rfl ?_) | (refine IsLoad ?_; first | refine L1 rfl rfl rfl rfl ?_ | refine L2 rfl rfl rfl rfl rfl ?_) | (refine IsStore ?_; refine S1 rfl rfl rfl rfl rfl rfl rfl (fun _ => ?_)) | (refine IsBox ?_; refine N1 rfl rfl rfl rfl (fun _ => ?_)) | (refine IsAlloc ?_; refine N2 rfl rfl rfl rfl (fun _ => ?_)) | (refine IsBuild ?_; refine U1 rfl rfl rfl rfl rfl rfl ?_) | refine V1 rfl rfl rfl ?_) | (refine IsAt ?_; first | (with_reducible first | refine T1 ?_ | refine T3 ?_ | refine T5 ?_ | refine T6 ?_) | ((with_reducible show At _ (PBlock _ _ (Exit.exit _)) _ _); refine At_block_hit ?_)) | (refine IsJ ?_; first | refine J_seq ?_ | refine J_region ?_ | refine J_skip ?_ | refine J_ret ?_ | refine J_exit ?_ | (refine IsCond ?_; first | refine J_cond_t rfl ?_ | refine J_cond_f rfl ?_ | refine J_cb rfl (fun _ => ?_) (fun _ => ?_))))
  · rename_i hlt
    refine J_block ?_
    obtain ⟨o, ho⟩ : ∃ o, os[q]? = some o := ⟨os[q]'(by omega), List.getElem?_eq_getElem _⟩
    repeat' (first | (refine IsO ?_; first | refine JO_nil ?_ | (refine IsBin ?_; refine B1 rfl rfl rfl rfl ?_) | (refine IsLoad ?_; first | refine L1 rfl rfl rfl rfl ?_ | refine L2 rfl rfl rfl rfl rfl ?_) | (refine IsStore ?_; refine S1 rfl rfl rfl rfl rfl rfl rfl (fun _ => ?_)) | (refine IsBox ?_; refine N1 rfl rfl rfl rfl (fun _ => ?_)) | (refine IsAlloc ?_; refine N2 rfl rfl rfl rfl (fun _ => ?_)) | (refine IsBuild ?_; refine U1 rfl rfl rfl rfl rfl rfl ?_) | refine V1 rfl rfl rfl ?_) | (refine IsAt ?_; first | (with_reducible first | refine T1 ?_ | refine T3 ?_ | refine T5 ?_ | refine T6 ?_) | ((with_reducible show At _ (PBlock _ _ (Exit.exit _)) _ _); refine At_block_hit ?_)) | (refine IsJ ?_; first | refine J_seq ?_ | refine J_region ?_ | refine J_block ?_ | refine J_skip ?_ | refine J_ret ?_ | refine J_exit ?_ | (refine IsCond ?_; first | refine J_cond_t rfl ?_ | refine J_cond_f rfl ?_ | refine J_cb rfl (fun _ => ?_) (fun _ => ?_))))
    refine JO_fact _ (fun w hs => hS.some (by omega) hs (by simp)) ?_
    rintro ⟨b2, o2, rfl⟩
    refine JO_val (OV_idx (off := o2 + q) rfl rfl rfl rfl (by omega) (by omega) (by simp)) rfl rfl ?_
    refine JO_q (OQ_read (v := .bool (lvB ms o)) hS (by simp) rfl rfl (by omega) (by simp [ho])) rfl rfl ?_
    cases hlv : lvB ms o with
    | false =>
      repeat' (first | (refine IsO ?_; first | refine JO_nil ?_ | (refine IsBin ?_; refine B1 rfl rfl rfl rfl ?_) | (refine IsLoad ?_; first | refine L1 rfl rfl rfl rfl ?_ | refine L2 rfl rfl rfl rfl rfl ?_) | (refine IsStore ?_; refine S1 rfl rfl rfl rfl rfl rfl rfl (fun _ => ?_)) | (refine IsBox ?_; refine N1 rfl rfl rfl rfl (fun _ => ?_)) | (refine IsAlloc ?_; refine N2 rfl rfl rfl rfl (fun _ => ?_)) | (refine IsBuild ?_; refine U1 rfl rfl rfl rfl rfl rfl ?_) | refine V1 rfl rfl rfl ?_) | (refine IsAt ?_; first | (with_reducible first | refine T1 ?_ | refine T3 ?_ | refine T5 ?_ | refine T6 ?_) | ((with_reducible show At _ (PBlock _ _ (Exit.exit _)) _ _); refine At_block_hit ?_)) | (refine IsJ ?_; first | refine J_seq ?_ | refine J_region ?_ | refine J_block ?_ | refine J_skip ?_ | refine J_ret ?_ | refine J_exit ?_ | (refine IsCond ?_; first | refine J_cond_t rfl ?_ | refine J_cond_f rfl ?_ | refine J_cb rfl (fun _ => ?_) (fun _ => ?_))))
      have hgo := goI_dead ho hlv
      exact At_round (q + 1, os', a', cap') (by show os.length - (q + 1) < os.length - q; omega) ⟨by show q + 1 ≤ os.length; omega, by rw [hgo]; exact hCh⟩ (by repeat (first | exact True.intro | refine And.intro rfl ?_)) (fun H hl => hl)
    | true =>
      have hot := hc.o_lt ho
      have hRW := RW.reads (List.mem_of_getElem? ho) ok
      obtain ⟨_, k2, k3, k4, k5⟩ := findR_some (x := 0) h hc ho
      have hgb := of_decide_eq_true k3
      obtain ⟨m, hm⟩ := Int.eq_ofNat_of_zero_le hgb.2.2.2.2.1
      have hmw : m ≤ o.ws.length := by omega
      repeat' (first | (refine IsO ?_; first | refine JO_nil ?_ | (refine IsBin ?_; refine B1 rfl rfl rfl rfl ?_) | (refine IsLoad ?_; first | refine L1 rfl rfl rfl rfl ?_ | refine L2 rfl rfl rfl rfl rfl ?_) | (refine IsStore ?_; refine S1 rfl rfl rfl rfl rfl rfl rfl (fun _ => ?_)) | (refine IsBox ?_; refine N1 rfl rfl rfl rfl (fun _ => ?_)) | (refine IsAlloc ?_; refine N2 rfl rfl rfl rfl (fun _ => ?_)) | (refine IsBuild ?_; refine U1 rfl rfl rfl rfl rfl rfl ?_) | refine V1 rfl rfl rfl ?_) | (refine IsAt ?_; first | (with_reducible first | refine T1 ?_ | refine T3 ?_ | refine T5 ?_ | refine T6 ?_) | ((with_reducible show At _ (PBlock _ _ (Exit.exit _)) _ _); refine At_block_hit ?_)) | (refine IsJ ?_; first | refine J_seq ?_ | refine J_region ?_ | refine J_block ?_ | refine J_skip ?_ | refine J_ret ?_ | refine J_exit ?_ | (refine IsCond ?_; first | refine J_cond_t rfl ?_ | refine J_cond_f rfl ?_ | refine J_cb rfl (fun _ => ?_) (fun _ => ?_))))
      refine JO_fact _ (fun w hs => hR.some (by omega) hs (by simp)) ?_
      rintro ⟨b, of, rfl⟩
      refine JO_val (OV_idx (off := of + q * 5) rfl rfl rfl rfl (by omega) (by omega) (by simp)) rfl rfl ?_
      refine JO_q (OQ_readA hR (by simp) rfl rfl rfl (by omega) (objs_take ho)) rfl rfl ?_
      repeat' (first | (refine IsO ?_; first | refine JO_nil ?_ | (refine IsBin ?_; refine B1 rfl rfl rfl rfl ?_) | (refine IsLoad ?_; first | refine L1 rfl rfl rfl rfl ?_ | refine L2 rfl rfl rfl rfl rfl ?_) | (refine IsStore ?_; refine S1 rfl rfl rfl rfl rfl rfl rfl (fun _ => ?_)) | (refine IsBox ?_; refine N1 rfl rfl rfl rfl (fun _ => ?_)) | (refine IsAlloc ?_; refine N2 rfl rfl rfl rfl (fun _ => ?_)) | (refine IsBuild ?_; refine U1 rfl rfl rfl rfl rfl rfl ?_) | refine V1 rfl rfl rfl ?_) | (refine IsAt ?_; first | (with_reducible first | refine T1 ?_ | refine T3 ?_ | refine T5 ?_ | refine T6 ?_) | ((with_reducible show At _ (PBlock _ _ (Exit.exit _)) _ _); refine At_block_hit ?_)) | (refine IsJ ?_; first | refine J_seq ?_ | refine J_region ?_ | refine J_block ?_ | refine J_skip ?_ | refine J_ret ?_ | refine J_exit ?_ | (refine IsCond ?_; first | refine J_cond_t rfl ?_ | refine J_cond_f rfl ?_ | refine J_cb rfl (fun _ => ?_) (fun _ => ?_))))
      refine JO_l (OL_buildSlice (cs := []) rfl rfl rfl rfl rfl rfl rfl rfl) rfl rfl ?_
      rintro _ _ ⟨b6, rfl, rfl⟩
      repeat' (first | (refine IsO ?_; first | refine JO_nil ?_ | (refine IsBin ?_; refine B1 rfl rfl rfl rfl ?_) | (refine IsLoad ?_; first | refine L1 rfl rfl rfl rfl ?_ | refine L2 rfl rfl rfl rfl rfl ?_) | (refine IsStore ?_; refine S1 rfl rfl rfl rfl rfl rfl rfl (fun _ => ?_)) | (refine IsBox ?_; refine N1 rfl rfl rfl rfl (fun _ => ?_)) | (refine IsAlloc ?_; refine N2 rfl rfl rfl rfl (fun _ => ?_)) | (refine IsBuild ?_; refine U1 rfl rfl rfl rfl rfl rfl ?_) | refine V1 rfl rfl rfl ?_) | (refine IsAt ?_; first | (with_reducible first | refine T1 ?_ | refine T3 ?_ | refine T5 ?_ | refine T6 ?_) | ((with_reducible show At _ (PBlock _ _ (Exit.exit _)) _ _); refine At_block_hit ?_)) | (refine IsJ ?_; first | refine J_seq ?_ | refine J_region ?_ | refine J_block ?_ | refine J_skip ?_ | refine J_ret ?_ | refine J_exit ?_ | (refine IsCond ?_; first | refine J_cond_t rfl ?_ | refine J_cond_f rfl ?_ | refine J_cb rfl (fun _ => ?_) (fun _ => ?_))))
      refine JO_l (OL_appendz (m := o.ws.length) rfl rfl rfl rfl rfl (hRW.src (by simp)) rfl (fun _ h => by cases h) (by omega) (by omega) (by decide)) rfl rfl ?_
      rintro _ _ ⟨wa, wc, rfl, rfl⟩
      repeat' (first | (refine IsO ?_; first | refine JO_nil ?_ | (refine IsBin ?_; refine B1 rfl rfl rfl rfl ?_) | (refine IsLoad ?_; first | refine L1 rfl rfl rfl rfl ?_ | refine L2 rfl rfl rfl rfl rfl ?_) | (refine IsStore ?_; refine S1 rfl rfl rfl rfl rfl rfl rfl (fun _ => ?_)) | (refine IsBox ?_; refine N1 rfl rfl rfl rfl (fun _ => ?_)) | (refine IsAlloc ?_; refine N2 rfl rfl rfl rfl (fun _ => ?_)) | (refine IsBuild ?_; refine U1 rfl rfl rfl rfl rfl rfl ?_) | refine V1 rfl rfl rfl ?_) | (refine IsAt ?_; first | (with_reducible first | refine T1 ?_ | refine T3 ?_ | refine T5 ?_ | refine T6 ?_) | ((with_reducible show At _ (PBlock _ _ (Exit.exit _)) _ _); refine At_block_hit ?_)) | (refine IsJ ?_; first | refine J_seq ?_ | refine J_region ?_ | refine J_block ?_ | refine J_skip ?_ | refine J_ret ?_ | refine J_exit ?_ | (refine IsCond ?_; first | refine J_cond_t rfl ?_ | refine J_cond_f rfl ?_ | refine J_cb rfl (fun _ => ?_) (fun _ => ?_))))
      rename_i b7 _
      have hfl : (fwL ms os o).length = o.ws.length := fwL_len
      have h0 : mixW (fwL ms os o) o.ws 0 = o.ws := by simp [mixW]
      refine J_loop (α := Nat) (fun k => k ≤ m)
        (fun k => [(1, .slice (some ⟨b2, o2, none⟩) os.length sc), (2, ptr bx 0), (4, ptr b4 0), (5, ptr b5 0), (6, .int .i64 q), (7, ptr b7 0), (8, .slice wa o.ws.length wc), (9, .int .i64 k), (17, .int .i64 os.length), (18, .int .i64 q)])
        (fun k => rowz 3 1 wa o.ws.length wc (intsV (mixW (fwL ms os o) o.ws k)) :: blk b7 [.int .i64 o.i, .int .i64 o.k, .int .i64 o.ws.length, .int .i64 o.p, .slice o.wa o.ws.length o.wc] 47 :: row 47 5 a' os'.length cap' (os'.flatMap cellsO) :: RW os' :: blk b5 [.int .i64 size, .slice a' os'.length cap'] 33 :: blk bx [.int .i64 size, .slice (some ⟨b, of, none⟩) os.length cap] 33 :: blk b4 [.int .i64 0, .slice none 0 0] 33 :: (refL (some ⟨b, of, none⟩) cap os ++ [Rs])) (fun k => m - k) 0 (Nat.zero_le _) (by repeat (first | exact True.intro | refine And.intro rfl ?_)) (fun H hl => by rw [h0]; exact hl.pick (is := [0, 1, 1, 1, 1, 1, 1, 1, 1, 1]) rfl) ?_
      intro k hk
      repeat' (first | (refine IsO ?_; first | refine JO_nil ?_ | (refine IsBin ?_; refine B1 rfl rfl rfl rfl ?_) | (refine IsLoad ?_; first | refine L1 rfl rfl rfl rfl ?_ | refine L2 rfl rfl rfl rfl rfl ?_) | (refine IsStore ?_; refine S1 rfl rfl rfl rfl rfl rfl rfl (fun _ => ?_)) | (refine IsBox ?_; refine N1 rfl rfl rfl rfl (fun _ => ?_)) | (refine IsAlloc ?_; refine N2 rfl rfl rfl rfl (fun _ => ?_)) | (refine IsBuild ?_; refine U1 rfl rfl rfl rfl rfl rfl ?_) | refine V1 rfl rfl rfl ?_) | (refine IsAt ?_; first | (with_reducible first | refine T1 ?_ | refine T3 ?_ | refine T5 ?_ | refine T6 ?_) | ((with_reducible show At _ (PBlock _ _ (Exit.exit _)) _ _); refine At_block_hit ?_)) | (refine IsJ ?_; first | refine J_seq ?_ | refine J_region ?_ | refine J_skip ?_ | refine J_ret ?_ | refine J_exit ?_ | (refine IsCond ?_; first | refine J_cond_t rfl ?_ | refine J_cond_f rfl ?_ | refine J_cb rfl (fun _ => ?_) (fun _ => ?_))))
      · rename_i hlt2
        refine J_block ?_
        have hkm : k < m := by omega
        obtain ⟨y, hy⟩ : ∃ y, o.ws[k]? = some y := ⟨o.ws[k]'(by omega), List.getElem?_eq_getElem _⟩
        have hW : Does Try.prog 17 [refV size (some ⟨b, of, none⟩) os.length cap, .slice (some ⟨b2, o2, none⟩) os.length sc, .int .i64 y] (refL (some ⟨b, of, none⟩) cap os ++ [Rs]) (fun v l => v = .tuple #[.int .i64 (fwI ms os y), .bool true] ∧ l = refL (some ⟨b, of, none⟩) cap os ++ [Rs]) := by
          rcases hr q o ho hlv k y (by omega) hy with rfl | ⟨j', o', hj', hl', he⟩
          · rw [fwI_zero]; exact W14_zero size
          · have e : y = (o'.i : Int) + 1 := by omega
            rw [e, fwI_obj hc hj']
            have := W14_obj (a := some ⟨b, of, none⟩) (cap := cap) size h hc (by omega) hS hj'
            rw [hl', if_pos rfl] at this
            exact this
        have hmy : (mixW (fwL ms os o) o.ws k)[k]? = some y := by rw [mixW_get hfl, if_neg (by omega)]; exact hy
        have hml : (mixW (fwL ms os o) o.ws k).length = o.ws.length := mixW_len hfl
        refine J_hp (l' := row 3 1 wa o.ws.length wc (intsV (mixW (fwL ms os o) o.ws k)) :: blk b7 [.int .i64 o.i, .int .i64 o.k, .int .i64 o.ws.length, .int .i64 o.p, .slice o.wa o.ws.length o.wc] 47 :: row 47 5 a' os'.length cap' (os'.flatMap cellsO) :: RW os' :: blk b5 [.int .i64 size, .slice a' os'.length cap'] 33 :: blk bx [.int .i64 size, .slice (some ⟨b, of, none⟩) os.length cap] 33 :: blk b4 [.int .i64 0, .slice none 0 0] 33 :: (refL (some ⟨b, of, none⟩) cap os ++ [Rs])) (fun H hl => hl.weak fun h hp => hp.resolve_left (by rintro ⟨e, _⟩; omega)) ?_
        refine J_row (i := 0) rfl fun hrr => ?_
        have hRw2 := Reads.row (T := 3) hrr.1 hrr.2.1
        refine J_fact _ (fun w hs => hRw2.some (by omega) hs (.head _)) ?_
        rintro ⟨wb, wo, rfl⟩
        repeat' (first | (refine IsO ?_; first | refine JO_nil ?_ | (refine IsBin ?_; refine B1 rfl rfl rfl rfl ?_) | (refine IsLoad ?_; first | refine L1 rfl rfl rfl rfl ?_ | refine L2 rfl rfl rfl rfl rfl ?_) | (refine IsStore ?_; refine S1 rfl rfl rfl rfl rfl rfl rfl (fun _ => ?_)) | (refine IsBox ?_; refine N1 rfl rfl rfl rfl (fun _ => ?_)) | (refine IsAlloc ?_; refine N2 rfl rfl rfl rfl (fun _ => ?_)) | (refine IsBuild ?_; refine U1 rfl rfl rfl rfl rfl rfl ?_) | refine V1 rfl rfl rfl ?_) | (refine IsAt ?_; first | (with_reducible first | refine T1 ?_ | refine T3 ?_ | refine T5 ?_ | refine T6 ?_) | ((with_reducible show At _ (PBlock _ _ (Exit.exit _)) _ _); refine At_block_hit ?_)) | (refine IsJ ?_; first | refine J_seq ?_ | refine J_region ?_ | refine J_block ?_ | refine J_skip ?_ | refine J_ret ?_ | refine J_exit ?_ | (refine IsCond ?_; first | refine J_cond_t rfl ?_ | refine J_cond_f rfl ?_ | refine J_cb rfl (fun _ => ?_) (fun _ => ?_))))
        refine J_draw [1, 0, 0, 0, 0, 1, 2, 0, 0, 0, 0, 0] (List.range 12) (by kernel_rfl) (by kernel_rfl) ?_
        repeat' (refine IsX ?_; first | (refine JX_nil ?_; refine At_np ?_) | (refine JX_op rfl ?_; refine XsO ?_; first | (refine XsLoad ?_; refine XL2 rfl rfl rfl rfl rfl rfl ?_) | refine XV1 rfl rfl rfl rfl ?_))
        refine JX_val rfl rfl (OV_idx (off := wo + k) rfl rfl rfl rfl (by omega) (by omega) (by simp)) rfl rfl ?_
        refine JX_q rfl rfl (OQ_read (i := k) (v := .int .i64 y) hRw2 (.head _) rfl rfl (by omega) (by simp [intsV, hmy])) rfl rfl ?_
        refine JX_l rfl rfl (OL_call [7, 7, 7] rfl rfl rfl hW rfl) rfl rfl ?_
        rintro _ _ ⟨_, ⟨rfl, rfl⟩, rfl⟩
        repeat' (refine IsX ?_; first | (refine JX_nil ?_; refine At_np ?_) | (refine JX_op rfl ?_; refine XsO ?_; first | (refine XsLoad ?_; refine XL2 rfl rfl rfl rfl rfl rfl ?_) | refine XV1 rfl rfl rfl rfl ?_))
        repeat' (first | (refine IsO ?_; first | refine JO_nil ?_ | (refine IsBin ?_; refine B1 rfl rfl rfl rfl ?_) | (refine IsLoad ?_; first | refine L1 rfl rfl rfl rfl ?_ | refine L2 rfl rfl rfl rfl rfl ?_) | (refine IsStore ?_; refine S1 rfl rfl rfl rfl rfl rfl rfl (fun _ => ?_)) | (refine IsBox ?_; refine N1 rfl rfl rfl rfl (fun _ => ?_)) | (refine IsAlloc ?_; refine N2 rfl rfl rfl rfl (fun _ => ?_)) | (refine IsBuild ?_; refine U1 rfl rfl rfl rfl rfl rfl ?_) | refine V1 rfl rfl rfl ?_) | (refine IsAt ?_; first | (with_reducible first | refine T1 ?_ | refine T3 ?_ | refine T5 ?_ | refine T6 ?_) | ((with_reducible show At _ (PBlock _ _ (Exit.exit _)) _ _); refine At_block_hit ?_)) | (refine IsJ ?_; first | refine J_seq ?_ | refine J_region ?_ | refine J_block ?_ | refine J_skip ?_ | refine J_ret ?_ | refine J_exit ?_ | (refine IsCond ?_; first | refine J_cond_t rfl ?_ | refine J_cond_f rfl ?_ | refine J_cb rfl (fun _ => ?_) (fun _ => ?_))))
        refine JO_val (OV_idx (off := wo + k) rfl rfl rfl rfl (by omega) (by omega) (by simp)) rfl rfl ?_
        refine JO_l0 (OL_storeR rfl rfl rfl rfl rfl rfl P3 (putL_ints (fwI ms os y) (by omega))) rfl ?_
        rintro _ _ rfl
        have hst : (mixW (fwL ms os o) o.ws k).set k (fwI ms os y) = mixW (fwL ms os o) o.ws (k + 1) := mixW_set hfl (by rw [fwL_at hy, if_pos (by omega)])
        rw [hst]
        repeat' (first | (refine IsO ?_; first | refine JO_nil ?_ | (refine IsBin ?_; refine B1 rfl rfl rfl rfl ?_) | (refine IsLoad ?_; first | refine L1 rfl rfl rfl rfl ?_ | refine L2 rfl rfl rfl rfl rfl ?_) | (refine IsStore ?_; refine S1 rfl rfl rfl rfl rfl rfl rfl (fun _ => ?_)) | (refine IsBox ?_; refine N1 rfl rfl rfl rfl (fun _ => ?_)) | (refine IsAlloc ?_; refine N2 rfl rfl rfl rfl (fun _ => ?_)) | (refine IsBuild ?_; refine U1 rfl rfl rfl rfl rfl rfl ?_) | refine V1 rfl rfl rfl ?_) | (refine IsAt ?_; first | (with_reducible first | refine T1 ?_ | refine T3 ?_ | refine T5 ?_ | refine T6 ?_) | ((with_reducible show At _ (PBlock _ _ (Exit.exit _)) _ _); refine At_block_hit ?_)) | (refine IsJ ?_; first | refine J_seq ?_ | refine J_region ?_ | refine J_block ?_ | refine J_skip ?_ | refine J_ret ?_ | refine J_exit ?_ | (refine IsCond ?_; first | refine J_cond_t rfl ?_ | refine J_cond_f rfl ?_ | refine J_cb rfl (fun _ => ?_) (fun _ => ?_))))
        exact At_round (k + 1) (by show m - (k + 1) < m - k; omega) (by show k + 1 ≤ m; omega) (by repeat (first | exact True.intro | refine And.intro rfl ?_)) (fun H hl => rowz_row (hl.pick (is := [0, 3, 3, 3, 3, 3, 3, 0, 0, 0]) rfl))
      · have hkm : k = m := by omega
        subst hkm
        have hmf : mixW (fwL ms os o) o.ws k = fwL ms os o := mixW_all hfl fun t ht => fwL_rest hm ht
        rw [hmf]
        have hgb2 := goI_bd (ms := ms) (os := os) (q := q)
        repeat' (first | (refine IsO ?_; first | refine JO_nil ?_ | (refine IsBin ?_; refine B1 rfl rfl rfl rfl ?_) | (refine IsLoad ?_; first | refine L1 rfl rfl rfl rfl ?_ | refine L2 rfl rfl rfl rfl rfl ?_) | (refine IsStore ?_; refine S1 rfl rfl rfl rfl rfl rfl rfl (fun _ => ?_)) | (refine IsBox ?_; refine N1 rfl rfl rfl rfl (fun _ => ?_)) | (refine IsAlloc ?_; refine N2 rfl rfl rfl rfl (fun _ => ?_)) | (refine IsBuild ?_; refine U1 rfl rfl rfl rfl rfl rfl ?_) | refine V1 rfl rfl rfl ?_) | (refine IsAt ?_; first | (with_reducible first | refine T1 ?_ | refine T3 ?_ | refine T5 ?_ | refine T6 ?_) | ((with_reducible show At _ (PBlock _ _ (Exit.exit _)) _ _); refine At_block_hit ?_)) | (refine IsJ ?_; first | refine J_seq ?_ | refine J_region ?_ | refine J_block ?_ | refine J_skip ?_ | refine J_ret ?_ | refine J_exit ?_ | (refine IsCond ?_; first | refine J_cond_t rfl ?_ | refine J_cond_f rfl ?_ | refine J_cb rfl (fun _ => ?_) (fun _ => ?_))))
        refine J_plan [blk b5 [.int .i64 size, .slice a' os'.length cap'] 33, blk b7 [.int .i64 o.i, .int .i64 o.k, .int .i64 o.ws.length, .int .i64 o.p, .slice o.wa o.ws.length o.wc] 47, blk bx [.int .i64 size, .slice (some ⟨b, of, none⟩) os.length cap] 33] (fun H hl => hl.pick (is := [4, 1, 3]) rfl) [0, 5, 5, 0, 0, 2, 0, 5, 0, 0, 2, 2, 0, 6] (.q 0 (.q 1 (.q 2 (.q 3 (.q 4 (.q 6 (.q 7 (.q 8 (.l1 5 (.q 9 (.l1 10 (.l1 11 (.q 12 (.l1 13 .fin)))))))))))))) (by kernel_rfl) (by kernel_rfl) ?_
        repeat' (refine IsF ?_; first | (refine JF_fin ?_; refine At_np ?_) | (refine JF_op rfl ?_; refine FsO ?_; first | (refine FsLoad ?_; first | refine FL1k rfl rfl rfl rfl rfl ?_ | refine FL2k rfl rfl rfl rfl rfl rfl ?_) | (refine FsBuild ?_; refine FU1 rfl rfl rfl rfl rfl rfl ?_) | refine FV1 rfl rfl rfl ?_))
        refine JF_l1 (JFO_l rfl (OL_call [7, 7, 7] rfl rfl rfl (To14_spec size (by omega) (by omega) hS q (by omega)) rfl) rfl rfl (.inr ?_) ?_)
        · rintro _ _ ⟨_, ⟨rfl, rfl⟩, rfl⟩ H hl
          exact hl.pick (is := [7, 4, 6]) rfl
        rintro _ _ ⟨_, ⟨rfl, rfl⟩, rfl⟩ _
        repeat' (refine IsF ?_; first | (refine JF_fin ?_; refine At_np ?_) | (refine JF_op rfl ?_; refine FsO ?_; first | (refine FsLoad ?_; first | refine FL1k rfl rfl rfl rfl rfl ?_ | refine FL2k rfl rfl rfl rfl rfl rfl ?_) | (refine FsBuild ?_; refine FU1 rfl rfl rfl rfl rfl rfl ?_) | refine FV1 rfl rfl rfl ?_))
        refine JF_l1 (JFO_l rfl (OL_buildSlice (cs := [.int .i64 (goI ms os q : Nat), .int .i64 o.k, .int .i64 o.ws.length, .int .i64 o.p, .slice wa o.ws.length wc]) rfl rfl rfl rfl rfl rfl rfl rfl) rfl rfl (.inr ?_) ?_)
        · rintro _ _ ⟨_, rfl, rfl⟩ H hl
          exact hl.pick (is := [8, 5, 7]) rfl
        rintro _ _ ⟨b8, rfl, rfl⟩ _
        refine JF_l1 (JFO_l rfl (OL_append (i := 6) rfl rfl rfl rfl rfl rfl ((Reads.blk rfl).src (.head _)) rfl rfl (fun _ h => by cases h) (by omega) (by omega) (by decide)) rfl rfl (.inr ?_) ?_)
        · rintro _ _ ⟨_, _, rfl, rfl⟩ H hl
          exact hl.pick (is := [8, 6, 7]) rfl
        rintro _ _ ⟨a2, cap2, rfl, rfl⟩ _
        repeat' (refine IsF ?_; first | (refine JF_fin ?_; refine At_np ?_) | (refine JF_op rfl ?_; refine FsO ?_; first | (refine FsLoad ?_; first | refine FL1k rfl rfl rfl rfl rfl ?_ | refine FL2k rfl rfl rfl rfl rfl rfl ?_) | (refine FsBuild ?_; refine FU1 rfl rfl rfl rfl rfl rfl ?_) | refine FV1 rfl rfl rfl ?_))
        refine JF_l1 (JFO_l0 rfl (OL_store rfl rfl rfl rfl rfl rfl (i := 8) rfl (by rfl)) rfl (.inl rfl) ?_)
        rintro _ _ rfl _
        repeat' (refine IsF ?_; first | (refine JF_fin ?_; refine At_np ?_) | (refine JF_op rfl ?_; refine FsO ?_; first | (refine FsLoad ?_; first | refine FL1k rfl rfl rfl rfl rfl ?_ | refine FL2k rfl rfl rfl rfl rfl rfl ?_) | (refine FsBuild ?_; refine FU1 rfl rfl rfl rfl rfl rfl ?_) | refine FV1 rfl rfl rfl ?_))
        repeat' (first | (refine IsO ?_; first | refine JO_nil ?_ | (refine IsBin ?_; refine B1 rfl rfl rfl rfl ?_) | (refine IsLoad ?_; first | refine L1 rfl rfl rfl rfl ?_ | refine L2 rfl rfl rfl rfl rfl ?_) | (refine IsStore ?_; refine S1 rfl rfl rfl rfl rfl rfl rfl (fun _ => ?_)) | (refine IsBox ?_; refine N1 rfl rfl rfl rfl (fun _ => ?_)) | (refine IsAlloc ?_; refine N2 rfl rfl rfl rfl (fun _ => ?_)) | (refine IsBuild ?_; refine U1 rfl rfl rfl rfl rfl rfl ?_) | refine V1 rfl rfl rfl ?_) | (refine IsAt ?_; first | (with_reducible first | refine T1 ?_ | refine T3 ?_ | refine T5 ?_ | refine T6 ?_) | ((with_reducible show At _ (PBlock _ _ (Exit.exit _)) _ _); refine At_block_hit ?_)) | (refine IsJ ?_; first | refine J_seq ?_ | refine J_region ?_ | refine J_block ?_ | refine J_skip ?_ | refine J_ret ?_ | refine J_exit ?_ | (refine IsCond ?_; first | refine J_cond_t rfl ?_ | refine J_cond_f rfl ?_ | refine J_cb rfl (fun _ => ?_) (fun _ => ?_))))
        have hstep := slide_step hc hCh ho hlv wa wc
        refine At_round (q + 1, os' ++ [⟨goI ms os q, o.k, o.p, fwL ms os o, wa, wc⟩], a2, cap2) (by show os.length - (q + 1) < os.length - q; omega) ⟨by show q + 1 ≤ os.length; omega, hstep⟩ (by repeat (first | exact True.intro | refine And.intro rfl ?_)) (fun H hl => ?_)
        have hn1 : (os' ++ [(⟨goI ms os q, o.k, o.p, fwL ms os o, wa, wc⟩ : RO)]).length = os'.length + 1 := by simp
        have hc1 : (os' ++ [(⟨goI ms os q, o.k, o.p, fwL ms os o, wa, wc⟩ : RO)]).flatMap cellsO = os'.flatMap cellsO ++ [.int .i64 (goI ms os q : Nat), .int .i64 o.k, .int .i64 o.ws.length, .int .i64 o.p, .slice wa o.ws.length wc] := by
          rw [List.flatMap_append, List.flatMap_cons, List.flatMap_nil, List.append_nil]
          unfold cellsO
          rw [hfl]
        dsimp only
        rw [hn1, hc1]
        have h1 := hl.pick (l := _) (is := [6, 7, 1, 0, 5, 5, 1, 1, 1]) rfl
        have e1 : rowz 3 1 wa o.ws.length wc (intsV (fwL ms os o)) = rowO ⟨goI ms os q, o.k, o.p, fwL ms os o, wa, wc⟩ := by
          unfold rowO
          rw [hfl]
        rw [e1] at h1
        have h3 := RW.to (news := [(⟨goI ms os q, o.k, o.p, fwL ms os o, wa, wc⟩ : RO)]) (os := os') (os' := os' ++ [(⟨goI ms os q, o.k, o.p, fwL ms os o, wa, wc⟩ : RO)]) (dr := []) (by rw [List.append_nil]; exact List.perm_append_comm) h1
        exact h3.pick (is := [1, 0, 0, 0, 0, 0, 0, 0]) rfl
  · have hqe : q = os.length := by omega
    subst hqe
    rw [goI_all] at hCh
    refine At_ret' rfl rfl (.agg rfl rfl rfl (by repeat (first | exact .head _ | refine .tail _ ?_)) rfl .nil) rfl (fun H hl => ?_) ⟨os', a', cap', hCh, rfl, rfl⟩
    exact (rowz_row (hl.pick (l := _) (is := [1, 1, 3, 3, 3]) rfl)).pick (is := [0, 0, 0, 0, 0]) rfl
end ops
end Go.Proofs.Ytahfnbpbdnmggaa
/-
  Our own: the document's answer for layer 11 (besomref11.Reach): what is reached.
-/
set_option linter.unusedVariables false
set_option linter.unusedSimpArgs false
namespace Go.Proofs.Ytahfnbpbdnmggaa
open Go.Sep
/-- An object is reached. -/
inductive Rch (os : List RO) (rts : List Int) : Nat → Prop
  | root {z : Int} {j : Nat} {o : RO} (hz : z ∈ rts) (hj : os[j]? = some o) (he : z = (o.i : Int) + 1) : Rch os rts j
  | ref {i k j : Nat} {o o' : RO} {y : Int} (h : Rch os rts i) (hi : os[i]? = some o) (hk : (k : Int) < o.p) (hy : o.ws[k]? = some y) (hj : os[j]? = some o') (he : y = (o'.i : Int) + 1) : Rch os rts j
/-- How many are not told to be reached. -/
def cfB (out : List Bool) : Nat := out.countP fun b => !b
theorem cfB_set {out : List Bool} {j : Nat} (h : out[j]? = some false) : cfB (out.set j true) + 1 = cfB out := by
  have := countP_set (p := fun b : Bool => !b) (x' := true) h
  simp at this
  exact this
/-- What a reference leads to is told to be reached. -/
def HitI (os : List RO) (out : List Bool) (y : Int) : Prop := y = 0 ∨ ∀ (j : Nat) (o : RO), os[j]? = some o → y = (o.i : Int) + 1 → out[j]? = some true
def ClosI (os : List RO) (out : List Bool) (i k : Nat) : Prop := out[i]? = some true → ∀ (o : RO) (k' : Nat) (y : Int), os[i]? = some o → k' < k → (k' : Int) < o.p → o.ws[k']? = some y → HitI os out y
def upB (a b : List Bool) : Prop := ∀ j : Nat, a[j]? = some true → b[j]? = some true
theorem upB_set {a : List Bool} {j : Nat} : upB a (a.set j true) := fun i hi => by
  rw [List.getElem?_set]
  split
  · split
    · rfl
    · rename_i h1 h2
      exact absurd (h1 ▸ (List.getElem?_eq_some_iff.1 hi).1) h2
  · exact hi
theorem HitI.up {os : List RO} {a b : List Bool} {y : Int} (h : HitI os a y) (u : upB a b) : HitI os b y := h.imp id fun k j o hj he => u j (k j o hj he)
structure RcI (os : List RO) (rts : List Int) (out : List Bool) : Prop where
  len : out.length = os.length
  snd : ∀ j : Nat, out[j]? = some true → Rch os rts j
theorem RcI.set {ws : List Int} {T : Nat} {os : List RO} {rts : List Int} {out : List Bool} (h : RcI os rts out) {j : Nat} (hr : Rch os rts j) : RcI os rts (out.set j true) := by
  refine ⟨by rw [List.length_set]; exact h.len, fun i hi => ?_⟩
  rcases set_cases hi with ⟨rfl, _⟩ | ⟨_, hi⟩
  · exact hr
  · exact h.snd i hi
/-- What is closed has all that is reached. -/
theorem rch_closed {os : List RO} {rts : List Int} {out : List Bool} (hl : out.length = os.length) (hroot : ∀ z ∈ rts, HitI os out z) (hcl : ∀ i, i < os.length → ∀ k, ClosI os out i k) {j : Nat} (h : Rch os rts j) : out[j]? = some true := by
  induction h with
  | root hz hj he =>
    rcases hroot _ hz with h0 | h1
    · omega
    · exact h1 _ _ hj he
  | ref h hi hk hy hj he ih =>
    rcases hcl _ (List.getElem?_eq_some_iff.1 hi).1 _ ih _ _ _ hi (Nat.lt_succ_self _) hk hy with h0 | h1
    · omega
    · exact h1 _ _ hj he
end Go.Proofs.Ytahfnbpbdnmggaa
/-
  Our own: the document's answer for layer 11 (besomref11.Reach): its walk.
-/
set_option linter.unusedVariables false
set_option linter.unusedSimpArgs false
namespace Go.Proofs.Ytahfnbpbdnmggaa
open Go.Sep
section ops
variable {a : Option Addr} {cap : Nat} {os : List RO} {ra : Option Addr} {rc : Nat} {rts : List Int} {Rr : HP} {n T : Nat} {ws : List Int} {st : List Bool}
theorem Find_at (hc : Ch ws 0 os T) (size : Int) (hb : os.length ≤ 65536) {j : Nat} {o : RO} (hj : os[j]? = some o) : Does Try.prog 45 [refV size a os.length cap, .int .i64 (o.i : Int)] (refL a cap os) (fun v l => v = .int .i64 (j : Nat) ∧ l = refL a cap os) :=
  (Find_spec size (o.i : Int) hb).mono fun v l => by
    rintro ⟨r, hr, rfl, rfl⟩
    rcases hr with ⟨j', o', rfl, hj', he⟩ | ⟨rfl, hno⟩
    · have := Ch.one hc hj' hj (by omega)
      subst this
      exact ⟨rfl, rfl⟩
    · exact absurd rfl (hno o (List.mem_of_getElem? hj))
set_option maxHeartbeats 32000000 in
theorem Reach_spec (size : Int) (h : HT n T ws st) (hc : Ch ws 0 os T) (hld : LeadP os) (hrt : ∀ z ∈ rts, z = 0 ∨ ∃ (j : Nat) (o : RO), os[j]? = some o ∧ z = (o.i : Int) + 1) (hRo : Reads Rr 1 rts.length ra rc (intsV rts)) (hrl : rts.length ≤ 65536) :
    Does Try.prog 48 [refV size a os.length cap, .slice ra rts.length rc] (refL a cap os ++ [Rr])
    (fun v l => ∃ (out : List Bool) (b : Nat), out.length = os.length ∧ (∀ j : Nat, out[j]? = some true ↔ Rch os rts j) ∧ v = sl b os.length ∧ l = blk b (boolsV out) 4 :: (refL a cap os ++ [Rr])) := by
  have htn := h.tn
  have hnb := h.nb
  have hlen := hc.len
  have hobd : ∀ (j : Nat) (o : RO), os[j]? = some o → o.i < T := fun j o hj => by have := hc.o_lt hj; omega
  refine Does.of tiok Try.func48 (by kernel_rfl) rfl Try.ntmps48 rfl ?_
  intro W fr
  refine J_rowzf P0 ?_
  rintro ⟨hl, hn, hcp⟩
  have hR : Reads (objsZ a cap os) 5 os.length a cap (os.flatMap cellsO) := Reads.rowz hl hn
  refine J_fact (okW os) (fun w hs => RW_ok hs (.tail _ (.head _))) ?_
  intro ok
  repeat' (first | (refine IsO ?_; first | refine JO_nil ?_ | (refine IsG ?_; refine G1 rfl rfl ?_) | (refine IsMove ?_; first | refine M1 rfl rfl rfl ?_ | refine M2 rfl rfl rfl ?_) | (refine IsBin ?_; first | refine B1 rfl rfl rfl rfl ?_ | refine B2 rfl rfl rfl rfl ?_) | (refine IsLoad ?_; first | refine L1 rfl rfl rfl rfl ?_ | refine L2 rfl rfl rfl rfl rfl ?_) | (refine IsBox ?_; refine N1 rfl rfl rfl rfl (fun _ => ?_)) | refine V1 rfl rfl rfl ?_) | (refine IsAt ?_; first | (with_reducible first | refine T1 ?_ | refine T3 ?_ | refine T5 ?_ | refine T6 ?_) | ((with_reducible show At _ (PBlock _ _ (Exit.exit _)) _ _); refine At_block_hit ?_)) | (refine IsJ ?_; first | refine J_seq ?_ | refine J_region ?_ | refine J_block ?_ | refine J_skip ?_ | refine J_ret ?_ | refine J_exit ?_ | (refine IsCond ?_; first | refine J_cond_t rfl ?_ | refine J_cond_f rfl ?_ | refine K1 rfl ?_ | refine J_cb rfl (fun _ => ?_) (fun _ => ?_))))
  refine JO_l (OL_makeN rfl rfl rfl rfl (by omega) (by omega)) rfl rfl ?_
  rintro _ _ ⟨b, rfl, rfl⟩
  repeat' (first | (refine IsO ?_; first | refine JO_nil ?_ | (refine IsG ?_; refine G1 rfl rfl ?_) | (refine IsMove ?_; first | refine M1 rfl rfl rfl ?_ | refine M2 rfl rfl rfl ?_) | (refine IsBin ?_; first | refine B1 rfl rfl rfl rfl ?_ | refine B2 rfl rfl rfl rfl ?_) | (refine IsLoad ?_; first | refine L1 rfl rfl rfl rfl ?_ | refine L2 rfl rfl rfl rfl rfl ?_) | (refine IsBox ?_; refine N1 rfl rfl rfl rfl (fun _ => ?_)) | refine V1 rfl rfl rfl ?_) | (refine IsAt ?_; first | (with_reducible first | refine T1 ?_ | refine T3 ?_ | refine T5 ?_ | refine T6 ?_) | ((with_reducible show At _ (PBlock _ _ (Exit.exit _)) _ _); refine At_block_hit ?_)) | (refine IsJ ?_; first | refine J_seq ?_ | refine J_region ?_ | refine J_block ?_ | refine J_skip ?_ | refine J_ret ?_ | refine J_exit ?_ | (refine IsCond ?_; first | refine J_cond_t rfl ?_ | refine J_cond_f rfl ?_ | refine K1 rfl ?_ | refine J_cb rfl (fun _ => ?_) (fun _ => ?_))))
  rename_i bx
  rw [show List.replicate os.length (Value.bool false) = boolsV (List.replicate os.length false) by simp]
  refine J_loop (α := Nat × List Bool) (fun x => x.1 ≤ rts.length ∧ RcI os rts x.2 ∧ ∀ (q : Nat) (z : Int), q < x.1 → rts[q]? = some z → HitI os x.2 z)
    (fun x => [(1, .slice ra rts.length rc), (2, ptr bx 0), (5, sl b os.length), (15, .slice ra rts.length rc), (16, .int .i64 rts.length), (17, .int .i64 x.1)])
    (fun x => blk b (boolsV x.2) 4 :: blk bx [.int .i64 size, .slice a os.length cap] 33 :: (refL a cap os ++ [Rr])) (fun x => rts.length - x.1) (0, List.replicate os.length false)
    ⟨Nat.zero_le _, ⟨by simp, fun j hj => by rw [List.getElem?_replicate] at hj; split at hj <;> simp at hj⟩, fun q z hq => absurd hq (Nat.not_lt_zero _)⟩ (by repeat (first | exact True.intro | refine And.intro rfl ?_)) (fun H hl => hl) ?_
  rintro ⟨q, out⟩ ⟨hq, hI, hH⟩
  dsimp only at hq hI hH ⊢
  have hol := hI.len
  repeat' (first | (refine IsO ?_; first | refine JO_nil ?_ | (refine IsG ?_; refine G1 rfl rfl ?_) | (refine IsMove ?_; first | refine M1 rfl rfl rfl ?_ | refine M2 rfl rfl rfl ?_) | (refine IsBin ?_; first | refine B1 rfl rfl rfl rfl ?_ | refine B2 rfl rfl rfl rfl ?_) | (refine IsLoad ?_; first | refine L1 rfl rfl rfl rfl ?_ | refine L2 rfl rfl rfl rfl rfl ?_) | (refine IsBox ?_; refine N1 rfl rfl rfl rfl (fun _ => ?_)) | refine V1 rfl rfl rfl ?_) | (refine IsAt ?_; first | (with_reducible first | refine T1 ?_ | refine T3 ?_ | refine T5 ?_ | refine T6 ?_) | ((with_reducible show At _ (PBlock _ _ (Exit.exit _)) _ _); refine At_block_hit ?_)) | (refine IsJ ?_; first | refine J_seq ?_ | refine J_region ?_ | refine J_skip ?_ | refine J_ret ?_ | refine J_exit ?_ | (refine IsCond ?_; first | refine J_cond_t rfl ?_ | refine J_cond_f rfl ?_ | refine K1 rfl ?_ | refine J_cb rfl (fun _ => ?_) (fun _ => ?_))))
  · rename_i hlt
    refine J_block ?_
    obtain ⟨z, hz⟩ : ∃ z, rts[q]? = some z := ⟨rts[q]'(by omega), List.getElem?_eq_getElem _⟩
    refine J_fact _ (fun w hs => hRo.some (by omega) hs (by simp)) ?_
    rintro ⟨rb, ro, rfl⟩
    have hzb : z = 0 ∨ ∃ (j : Nat) (o : RO), os[j]? = some o ∧ z = (o.i : Int) + 1 := hrt z (List.mem_of_getElem? hz)
    have hround : ∀ out' : List Bool, RcI os rts out' → upB out out' → HitI os out' z → ∀ (q' : Nat) (z' : Int), q' < q + 1 → rts[q']? = some z' → HitI os out' z' := by
      intro out' _ hu hh q' z' hq' hz'
      by_cases e : q' = q
      · subst e; rw [hz] at hz'; injection hz' with hz'; subst hz'; exact hh
      · exact (hH q' z' (by omega) hz').up hu
    repeat' (first | (refine IsO ?_; first | refine JO_nil ?_ | (refine IsG ?_; refine G1 rfl rfl ?_) | (refine IsMove ?_; first | refine M1 rfl rfl rfl ?_ | refine M2 rfl rfl rfl ?_) | (refine IsBin ?_; first | refine B1 rfl rfl rfl rfl ?_ | refine B2 rfl rfl rfl rfl ?_) | (refine IsLoad ?_; first | refine L1 rfl rfl rfl rfl ?_ | refine L2 rfl rfl rfl rfl rfl ?_) | (refine IsBox ?_; refine N1 rfl rfl rfl rfl (fun _ => ?_)) | refine V1 rfl rfl rfl ?_) | (refine IsAt ?_; first | (with_reducible first | refine T1 ?_ | refine T3 ?_ | refine T5 ?_ | refine T6 ?_) | ((with_reducible show At _ (PBlock _ _ (Exit.exit _)) _ _); refine At_block_hit ?_)) | (refine IsJ ?_; first | refine J_seq ?_ | refine J_region ?_ | refine J_block ?_ | refine J_skip ?_ | refine J_ret ?_ | refine J_exit ?_ | (refine IsCond ?_; first | refine J_cond_t rfl ?_ | refine J_cond_f rfl ?_ | refine K1 rfl ?_ | refine J_cb rfl (fun _ => ?_) (fun _ => ?_))))
    refine JO_val (OV_idx (off := ro + q) rfl rfl rfl rfl (by omega) (by omega) (by simp)) rfl rfl ?_
    refine JO_q (OQ_read (i := q) (v := .int .i64 z) hRo (by simp) rfl rfl (by omega) (by simp [intsV, hz])) rfl rfl ?_
    rcases hzb with rfl | ⟨j, o, hj, rfl⟩
    · repeat' (first | (refine IsO ?_; first | refine JO_nil ?_ | (refine IsG ?_; refine G1 rfl rfl ?_) | (refine IsMove ?_; first | refine M1 rfl rfl rfl ?_ | refine M2 rfl rfl rfl ?_) | (refine IsBin ?_; first | refine B1 rfl rfl rfl rfl ?_ | refine B2 rfl rfl rfl rfl ?_) | (refine IsLoad ?_; first | refine L1 rfl rfl rfl rfl ?_ | refine L2 rfl rfl rfl rfl rfl ?_) | (refine IsBox ?_; refine N1 rfl rfl rfl rfl (fun _ => ?_)) | refine V1 rfl rfl rfl ?_) | (refine IsAt ?_; first | (with_reducible first | refine T1 ?_ | refine T3 ?_ | refine T5 ?_ | refine T6 ?_) | ((with_reducible show At _ (PBlock _ _ (Exit.exit _)) _ _); refine At_block_hit ?_)) | (refine IsJ ?_; first | refine J_seq ?_ | refine J_region ?_ | refine J_block ?_ | refine J_skip ?_ | refine J_ret ?_ | refine J_exit ?_ | (refine IsCond ?_; first | refine J_cond_t rfl ?_ | refine J_cond_f rfl ?_ | refine K1 rfl ?_ | refine J_cb rfl (fun _ => ?_) (fun _ => ?_))))
      exact At_round (q + 1, out) (by show rts.length - (q + 1) < rts.length - q; omega) ⟨by show q + 1 ≤ rts.length; omega, hI, hround out hI (fun _ h => h) (.inl rfl)⟩ (by repeat (first | exact True.intro | refine And.intro rfl ?_)) (fun H hl => hl)
    · have hoT := hobd j o hj
      have hjl := (List.getElem?_eq_some_iff.1 hj).1
      repeat' (first | (refine IsO ?_; first | refine JO_nil ?_ | (refine IsG ?_; refine G1 rfl rfl ?_) | (refine IsMove ?_; first | refine M1 rfl rfl rfl ?_ | refine M2 rfl rfl rfl ?_) | (refine IsBin ?_; first | refine B1 rfl rfl rfl rfl ?_ | refine B2 rfl rfl rfl rfl ?_) | (refine IsLoad ?_; first | refine L1 rfl rfl rfl rfl ?_ | refine L2 rfl rfl rfl rfl rfl ?_) | (refine IsBox ?_; refine N1 rfl rfl rfl rfl (fun _ => ?_)) | refine V1 rfl rfl rfl ?_) | (refine IsAt ?_; first | (with_reducible first | refine T1 ?_ | refine T3 ?_ | refine T5 ?_ | refine T6 ?_) | ((with_reducible show At _ (PBlock _ _ (Exit.exit _)) _ _); refine At_block_hit ?_)) | (refine IsJ ?_; first | refine J_seq ?_ | refine J_region ?_ | refine J_block ?_ | refine J_skip ?_ | refine J_ret ?_ | refine J_exit ?_ | (refine IsCond ?_; first | refine J_cond_t rfl ?_ | refine J_cond_f rfl ?_ | refine K1 rfl ?_ | refine J_cb rfl (fun _ => ?_) (fun _ => ?_))))
      refine J_draw [0, 1, 0, 0, 0, 1, 0, 2, 0, 2] (List.range 10) (by kernel_rfl) (by kernel_rfl) ?_
      repeat' (refine IsX ?_; first | (refine JX_nil ?_; refine At_np ?_) | (refine JX_op rfl ?_; refine XsO ?_; first | (refine XsBin ?_; refine XB2 rfl rfl rfl rfl rfl ?_) | (refine XsLoad ?_; refine XL2 rfl rfl rfl rfl rfl rfl ?_) | refine XV1 rfl rfl rfl rfl ?_))
      refine JX_val rfl rfl (OV_idx (off := ro + q) rfl rfl rfl rfl (by omega) (by omega) (by simp)) rfl rfl ?_
      refine JX_q rfl rfl (OQ_read (i := q) (v := .int .i64 ((o.i : Int) + 1)) hRo (by simp) rfl rfl (by omega) (by simp [intsV, hz])) rfl rfl ?_
      repeat' (refine IsX ?_; first | (refine JX_nil ?_; refine At_np ?_) | (refine JX_op rfl ?_; refine XsO ?_; first | (refine XsBin ?_; refine XB2 rfl rfl rfl rfl rfl ?_) | (refine XsLoad ?_; refine XL2 rfl rfl rfl rfl rfl rfl ?_) | refine XV1 rfl rfl rfl rfl ?_))
      rw [show (o.i : Int) + 1 - 1 = (o.i : Int) by omega]
      refine JX_l rfl rfl (OL_call [2, 2] rfl rfl rfl (Find_at hc size (by omega) hj) rfl) rfl rfl ?_
      rintro _ _ ⟨_, ⟨rfl, rfl⟩, rfl⟩
      refine JX_val rfl rfl (OV_idx (off := 0 + j) rfl rfl rfl rfl (by omega) (by omega) (by simp)) rfl rfl ?_
      rw [Nat.zero_add]
      refine JX_l0 rfl rfl (OL_store (i := 2) rfl rfl rfl rfl rfl rfl rfl (putL_bools true (by omega))) rfl ?_
      rintro _ _ rfl
      repeat' (refine IsX ?_; first | (refine JX_nil ?_; refine At_np ?_) | (refine JX_op rfl ?_; refine XsO ?_; first | (refine XsBin ?_; refine XB2 rfl rfl rfl rfl rfl ?_) | (refine XsLoad ?_; refine XL2 rfl rfl rfl rfl rfl rfl ?_) | refine XV1 rfl rfl rfl rfl ?_))
      repeat' (first | (refine IsO ?_; first | refine JO_nil ?_ | (refine IsG ?_; refine G1 rfl rfl ?_) | (refine IsMove ?_; first | refine M1 rfl rfl rfl ?_ | refine M2 rfl rfl rfl ?_) | (refine IsBin ?_; first | refine B1 rfl rfl rfl rfl ?_ | refine B2 rfl rfl rfl rfl ?_) | (refine IsLoad ?_; first | refine L1 rfl rfl rfl rfl ?_ | refine L2 rfl rfl rfl rfl rfl ?_) | (refine IsBox ?_; refine N1 rfl rfl rfl rfl (fun _ => ?_)) | refine V1 rfl rfl rfl ?_) | (refine IsAt ?_; first | (with_reducible first | refine T1 ?_ | refine T3 ?_ | refine T5 ?_ | refine T6 ?_) | ((with_reducible show At _ (PBlock _ _ (Exit.exit _)) _ _); refine At_block_hit ?_)) | (refine IsJ ?_; first | refine J_seq ?_ | refine J_region ?_ | refine J_block ?_ | refine J_skip ?_ | refine J_ret ?_ | refine J_exit ?_ | (refine IsCond ?_; first | refine J_cond_t rfl ?_ | refine J_cond_f rfl ?_ | refine K1 rfl ?_ | refine J_cb rfl (fun _ => ?_) (fun _ => ?_))))
      exact At_round (q + 1, out.set j true) (by show rts.length - (q + 1) < rts.length - q; omega) ⟨by show q + 1 ≤ rts.length; omega, RcI.set (ws := ws) (T := T) hI (.root (List.mem_of_getElem? hz) hj rfl), hround _ (RcI.set (ws := ws) (T := T) hI (.root (List.mem_of_getElem? hz) hj rfl)) upB_set
        (.inr fun j' o' hj' he => by
          have := Ch.one hc hj' hj (by omega)
          subst this
          rw [List.getElem?_set, if_pos rfl, if_pos (by omega)])⟩ (by repeat (first | exact True.intro | refine And.intro rfl ?_)) (fun H hl => hl.pick (is := [0, 2, 0, 0, 0]) rfl)
  · have hqe : q = rts.length := by omega
    subst hqe
    have hroot : ∀ z ∈ rts, HitI os out z := fun z hz => by
      obtain ⟨k, hk⟩ := List.getElem?_of_mem hz
      exact hH k z (List.getElem?_eq_some_iff.1 hk).1 hk
    refine J_block ?_
    refine J_loop (α := List Bool × Bool) (fun x => RcI os rts x.1 ∧ (∀ z ∈ rts, HitI os x.1 z) ∧ (x.2 = false → ∀ i, i < os.length → ∀ k, ClosI os x.1 i k))
      (fun x => [(2, ptr bx 0), (5, sl b os.length), (7, .bool x.2)]) (fun x => blk b (boolsV x.1) 4 :: blk bx [.int .i64 size, .slice a os.length cap] 33 :: (refL a cap os ++ [Rr]))
      (fun x => if x.2 then cfB x.1 + 1 else 0) (out, true) ⟨hI, hroot, fun e => by cases e⟩ (by repeat (first | exact True.intro | refine And.intro rfl ?_)) (fun H hl => hl) ?_
    clear hI hH hol hroot
    rintro ⟨out, more⟩ ⟨hI, hroot, hcl⟩
    dsimp only at hI hroot hcl ⊢
    have hol := hI.len
    cases more with
    | false =>
      repeat' (first | (refine IsO ?_; first | refine JO_nil ?_ | (refine IsG ?_; refine G1 rfl rfl ?_) | (refine IsMove ?_; first | refine M1 rfl rfl rfl ?_ | refine M2 rfl rfl rfl ?_) | (refine IsBin ?_; first | refine B1 rfl rfl rfl rfl ?_ | refine B2 rfl rfl rfl rfl ?_) | (refine IsLoad ?_; first | refine L1 rfl rfl rfl rfl ?_ | refine L2 rfl rfl rfl rfl rfl ?_) | (refine IsBox ?_; refine N1 rfl rfl rfl rfl (fun _ => ?_)) | refine V1 rfl rfl rfl ?_) | (refine IsAt ?_; first | (with_reducible first | refine T1 ?_ | refine T3 ?_ | refine T5 ?_ | refine T6 ?_) | ((with_reducible show At _ (PBlock _ _ (Exit.exit _)) _ _); refine At_block_hit ?_)) | (refine IsJ ?_; first | refine J_seq ?_ | refine J_region ?_ | refine J_block ?_ | refine J_skip ?_ | refine J_ret ?_ | refine J_exit ?_ | (refine IsCond ?_; first | refine J_cond_t rfl ?_ | refine J_cond_f rfl ?_ | refine K1 rfl ?_ | refine J_cb rfl (fun _ => ?_) (fun _ => ?_))))
      exact At_ret rfl rfl (.tmp rfl .nil) rfl (is := [0, 1, 1, 1]) rfl ⟨out, b, hol, fun j => ⟨hI.snd j, fun hr => rch_closed hol hroot (hcl rfl) hr⟩, rfl, rfl⟩
    | true =>
      repeat' (first | (refine IsO ?_; first | refine JO_nil ?_ | (refine IsG ?_; refine G1 rfl rfl ?_) | (refine IsMove ?_; first | refine M1 rfl rfl rfl ?_ | refine M2 rfl rfl rfl ?_) | (refine IsBin ?_; first | refine B1 rfl rfl rfl rfl ?_ | refine B2 rfl rfl rfl rfl ?_) | (refine IsLoad ?_; first | refine L1 rfl rfl rfl rfl ?_ | refine L2 rfl rfl rfl rfl rfl ?_) | (refine IsBox ?_; refine N1 rfl rfl rfl rfl (fun _ => ?_)) | refine V1 rfl rfl rfl ?_) | (refine IsAt ?_; first | (with_reducible first | refine T1 ?_ | refine T3 ?_ | refine T5 ?_ | refine T6 ?_) | ((with_reducible show At _ (PBlock _ _ (Exit.exit _)) _ _); refine At_block_hit ?_)) | (refine IsJ ?_; first | refine J_seq ?_ | refine J_region ?_ | refine J_block ?_ | refine J_skip ?_ | refine J_ret ?_ | refine J_exit ?_ | (refine IsCond ?_; first | refine J_cond_t rfl ?_ | refine J_cond_f rfl ?_ | refine K1 rfl ?_ | refine J_cb rfl (fun _ => ?_) (fun _ => ?_))))
      refine J_loop (α := Nat × List Bool × Bool) (fun x => x.1 ≤ os.length ∧ RcI os rts x.2.1 ∧ upB out x.2.1 ∧ cfB x.2.1 ≤ cfB out ∧ (x.2.2 = true → cfB x.2.1 < cfB out) ∧ (x.2.2 = false → ∀ i, i < x.1 → ∀ k, ClosI os x.2.1 i k))
        (fun x => [(2, ptr bx 0), (5, sl b os.length), (7, .bool x.2.2), (37, .slice a os.length cap), (38, .int .i64 os.length), (39, .int .i64 x.1)]) (fun x => blk b (boolsV x.2.1) 4 :: blk bx [.int .i64 size, .slice a os.length cap] 33 :: (refL a cap os ++ [Rr]))
        (fun x => os.length - x.1) (0, out, false) ⟨Nat.zero_le _, hI, fun _ h => h, Nat.le_refl _, (fun e => by cases e), fun _ i hi => absurd hi (Nat.not_lt_zero _)⟩ (by repeat (first | exact True.intro | refine And.intro rfl ?_)) (fun H hl => hl) ?_
      rintro ⟨i, out1, more⟩ ⟨hi, hI1, hu1, hc1, hm1, hcl1⟩
      dsimp only at hi hI1 hu1 hc1 hm1 hcl1 ⊢
      repeat' (first | (refine IsO ?_; first | refine JO_nil ?_ | (refine IsG ?_; refine G1 rfl rfl ?_) | (refine IsMove ?_; first | refine M1 rfl rfl rfl ?_ | refine M2 rfl rfl rfl ?_) | (refine IsBin ?_; first | refine B1 rfl rfl rfl rfl ?_ | refine B2 rfl rfl rfl rfl ?_) | (refine IsLoad ?_; first | refine L1 rfl rfl rfl rfl ?_ | refine L2 rfl rfl rfl rfl rfl ?_) | (refine IsBox ?_; refine N1 rfl rfl rfl rfl (fun _ => ?_)) | refine V1 rfl rfl rfl ?_) | (refine IsAt ?_; first | (with_reducible first | refine T1 ?_ | refine T3 ?_ | refine T5 ?_ | refine T6 ?_) | ((with_reducible show At _ (PBlock _ _ (Exit.exit _)) _ _); refine At_block_hit ?_)) | (refine IsJ ?_; first | refine J_seq ?_ | refine J_region ?_ | refine J_skip ?_ | refine J_ret ?_ | refine J_exit ?_ | (refine IsCond ?_; first | refine J_cond_t rfl ?_ | refine J_cond_f rfl ?_ | refine K1 rfl ?_ | refine J_cb rfl (fun _ => ?_) (fun _ => ?_))))
      · rename_i hlt
        refine J_block ?_
        obtain ⟨o, ho⟩ : ∃ o, os[i]? = some o := ⟨os[i]'(by omega), List.getElem?_eq_getElem _⟩
        have hot := hc.o_lt ho
        obtain ⟨_, k2, k3, k4, k5⟩ := findR_some (x := 0) h hc ho
        have hgb := of_decide_eq_true k3
        obtain ⟨m, hm⟩ := Int.eq_ofNat_of_zero_le hgb.2.2.2.2.1
        have hmw : m ≤ o.ws.length := by omega
        refine J_fact _ (fun w hs => hR.some (by omega) hs (by simp)) ?_
        rintro ⟨b2, of, rfl⟩
        repeat' (first | (refine IsO ?_; first | refine JO_nil ?_ | (refine IsG ?_; refine G1 rfl rfl ?_) | (refine IsMove ?_; first | refine M1 rfl rfl rfl ?_ | refine M2 rfl rfl rfl ?_) | (refine IsBin ?_; first | refine B1 rfl rfl rfl rfl ?_ | refine B2 rfl rfl rfl rfl ?_) | (refine IsLoad ?_; first | refine L1 rfl rfl rfl rfl ?_ | refine L2 rfl rfl rfl rfl rfl ?_) | (refine IsBox ?_; refine N1 rfl rfl rfl rfl (fun _ => ?_)) | refine V1 rfl rfl rfl ?_) | (refine IsAt ?_; first | (with_reducible first | refine T1 ?_ | refine T3 ?_ | refine T5 ?_ | refine T6 ?_) | ((with_reducible show At _ (PBlock _ _ (Exit.exit _)) _ _); refine At_block_hit ?_)) | (refine IsJ ?_; first | refine J_seq ?_ | refine J_region ?_ | refine J_block ?_ | refine J_skip ?_ | refine J_ret ?_ | refine J_exit ?_ | (refine IsCond ?_; first | refine J_cond_t rfl ?_ | refine J_cond_f rfl ?_ | refine K1 rfl ?_ | refine J_cb rfl (fun _ => ?_) (fun _ => ?_))))
        refine J_loop (α := Nat × List Bool × Bool) (fun x => x.1 ≤ m ∧ RcI os rts x.2.1 ∧ upB out x.2.1 ∧ cfB x.2.1 ≤ cfB out ∧ (x.2.2 = true → cfB x.2.1 < cfB out) ∧ (x.2.2 = false → (∀ i', i' < i → ∀ k, ClosI os x.2.1 i' k) ∧ ClosI os x.2.1 i x.1))
          (fun x => [(2, ptr bx 0), (5, sl b os.length), (7, .bool x.2.2), (8, .int .i64 i), (9, .int .i64 x.1), (37, .slice (some ⟨b2, of, none⟩) os.length cap), (38, .int .i64 os.length), (39, .int .i64 i)]) (fun x => blk b (boolsV x.2.1) 4 :: blk bx [.int .i64 size, .slice (some ⟨b2, of, none⟩) os.length cap] 33 :: (refL (some ⟨b2, of, none⟩) cap os ++ [Rr]))
          (fun x => m - x.1) (0, out1, more) ⟨Nat.zero_le _, hI1, hu1, hc1, hm1, fun e => ⟨hcl1 e, fun _ _ k' _ _ hk' => absurd hk' (Nat.not_lt_zero _)⟩⟩ (by repeat (first | exact True.intro | refine And.intro rfl ?_)) (fun H hl => hl) ?_
        clear hI1 hu1 hc1 hm1 hcl1
        rintro ⟨k, out1, more⟩ ⟨hk, hI1, hu1, hc1, hm1, hcl1⟩
        dsimp only at hk hI1 hu1 hc1 hm1 hcl1 ⊢
        have hol1 := hI1.len
        obtain ⟨bi, hbi⟩ : ∃ bi, out1[i]? = some bi := ⟨out1[i]'(by omega), List.getElem?_eq_getElem _⟩
        repeat' (first | (refine IsO ?_; first | refine JO_nil ?_ | (refine IsG ?_; refine G1 rfl rfl ?_) | (refine IsMove ?_; first | refine M1 rfl rfl rfl ?_ | refine M2 rfl rfl rfl ?_) | (refine IsBin ?_; first | refine B1 rfl rfl rfl rfl ?_ | refine B2 rfl rfl rfl rfl ?_) | (refine IsLoad ?_; first | refine L1 rfl rfl rfl rfl ?_ | refine L2 rfl rfl rfl rfl rfl ?_) | (refine IsBox ?_; refine N1 rfl rfl rfl rfl (fun _ => ?_)) | refine V1 rfl rfl rfl ?_) | (refine IsAt ?_; first | (with_reducible first | refine T1 ?_ | refine T3 ?_ | refine T5 ?_ | refine T6 ?_) | ((with_reducible show At _ (PBlock _ _ (Exit.exit _)) _ _); refine At_block_hit ?_)) | (refine IsJ ?_; first | refine J_seq ?_ | refine J_region ?_ | refine J_skip ?_ | refine J_ret ?_ | refine J_exit ?_ | (refine IsCond ?_; first | refine J_cond_t rfl ?_ | refine J_cond_f rfl ?_ | refine K1 rfl ?_ | refine J_cb rfl (fun _ => ?_) (fun _ => ?_))))
        refine JO_val (OV_idx (off := 0 + i) rfl rfl rfl rfl (by omega) (by omega) (by simp)) rfl rfl ?_
        rw [Nat.zero_add]
        refine JO_q (OQ_load (v := .bool bi) rfl rfl (.head _) (by simp [hbi])) rfl rfl ?_
        cases bi with
        | false =>
          repeat' (first | (refine IsO ?_; first | refine JO_nil ?_ | (refine IsG ?_; refine G1 rfl rfl ?_) | (refine IsMove ?_; first | refine M1 rfl rfl rfl ?_ | refine M2 rfl rfl rfl ?_) | (refine IsBin ?_; first | refine B1 rfl rfl rfl rfl ?_ | refine B2 rfl rfl rfl rfl ?_) | (refine IsLoad ?_; first | refine L1 rfl rfl rfl rfl ?_ | refine L2 rfl rfl rfl rfl rfl ?_) | (refine IsBox ?_; refine N1 rfl rfl rfl rfl (fun _ => ?_)) | refine V1 rfl rfl rfl ?_) | (refine IsAt ?_; first | (with_reducible first | refine T1 ?_ | refine T3 ?_ | refine T5 ?_ | refine T6 ?_) | ((with_reducible show At _ (PBlock _ _ (Exit.exit _)) _ _); refine At_block_hit ?_)) | (refine IsJ ?_; first | refine J_seq ?_ | refine J_region ?_ | refine J_block ?_ | refine J_skip ?_ | refine J_ret ?_ | refine J_exit ?_ | (refine IsCond ?_; first | refine J_cond_t rfl ?_ | refine J_cond_f rfl ?_ | refine K1 rfl ?_ | refine J_cb rfl (fun _ => ?_) (fun _ => ?_))))
          refine At_round (i + 1, out1, more) (by show os.length - (i + 1) < os.length - i; omega) ⟨by show i + 1 ≤ os.length; omega, hI1, hu1, hc1, hm1, fun e i' hi' k' => ?_⟩ (by repeat (first | exact True.intro | refine And.intro rfl ?_)) (fun H hl => hl)
          by_cases e2 : i' = i
          · subst e2
            intro ht
            rw [hbi] at ht
            simp at ht
          · exact (hcl1 e).1 i' (by dsimp only at hi'; omega) k'
        | true =>
          repeat' (first | (refine IsO ?_; first | refine JO_nil ?_ | (refine IsG ?_; refine G1 rfl rfl ?_) | (refine IsMove ?_; first | refine M1 rfl rfl rfl ?_ | refine M2 rfl rfl rfl ?_) | (refine IsBin ?_; first | refine B1 rfl rfl rfl rfl ?_ | refine B2 rfl rfl rfl rfl ?_) | (refine IsLoad ?_; first | refine L1 rfl rfl rfl rfl ?_ | refine L2 rfl rfl rfl rfl rfl ?_) | (refine IsBox ?_; refine N1 rfl rfl rfl rfl (fun _ => ?_)) | refine V1 rfl rfl rfl ?_) | (refine IsAt ?_; first | (with_reducible first | refine T1 ?_ | refine T3 ?_ | refine T5 ?_ | refine T6 ?_) | ((with_reducible show At _ (PBlock _ _ (Exit.exit _)) _ _); refine At_block_hit ?_)) | (refine IsJ ?_; first | refine J_seq ?_ | refine J_region ?_ | refine J_block ?_ | refine J_skip ?_ | refine J_ret ?_ | refine J_exit ?_ | (refine IsCond ?_; first | refine J_cond_t rfl ?_ | refine J_cond_f rfl ?_ | refine K1 rfl ?_ | refine J_cb rfl (fun _ => ?_) (fun _ => ?_))))
          refine JO_val (OV_idx (off := of + i * 5) rfl rfl rfl rfl (by omega) (by omega) (by simp)) rfl rfl ?_
          repeat' (first | (refine IsO ?_; first | refine JO_nil ?_ | (refine IsG ?_; refine G1 rfl rfl ?_) | (refine IsMove ?_; first | refine M1 rfl rfl rfl ?_ | refine M2 rfl rfl rfl ?_) | (refine IsBin ?_; first | refine B1 rfl rfl rfl rfl ?_ | refine B2 rfl rfl rfl rfl ?_) | (refine IsLoad ?_; first | refine L1 rfl rfl rfl rfl ?_ | refine L2 rfl rfl rfl rfl rfl ?_) | (refine IsBox ?_; refine N1 rfl rfl rfl rfl (fun _ => ?_)) | refine V1 rfl rfl rfl ?_) | (refine IsAt ?_; first | (with_reducible first | refine T1 ?_ | refine T3 ?_ | refine T5 ?_ | refine T6 ?_) | ((with_reducible show At _ (PBlock _ _ (Exit.exit _)) _ _); refine At_block_hit ?_)) | (refine IsJ ?_; first | refine J_seq ?_ | refine J_region ?_ | refine J_block ?_ | refine J_skip ?_ | refine J_ret ?_ | refine J_exit ?_ | (refine IsCond ?_; first | refine J_cond_t rfl ?_ | refine J_cond_f rfl ?_ | refine K1 rfl ?_ | refine J_cb rfl (fun _ => ?_) (fun _ => ?_))))
          refine JO_q (OQ_read (i := i * 5 + 3) (v := .int .i64 o.p) hR (by simp) rfl rfl (by omega) (by rw [objs_get ho (by omega)]; rfl)) rfl rfl ?_
          repeat' (first | (refine IsO ?_; first | refine JO_nil ?_ | (refine IsG ?_; refine G1 rfl rfl ?_) | (refine IsMove ?_; first | refine M1 rfl rfl rfl ?_ | refine M2 rfl rfl rfl ?_) | (refine IsBin ?_; first | refine B1 rfl rfl rfl rfl ?_ | refine B2 rfl rfl rfl rfl ?_) | (refine IsLoad ?_; first | refine L1 rfl rfl rfl rfl ?_ | refine L2 rfl rfl rfl rfl rfl ?_) | (refine IsBox ?_; refine N1 rfl rfl rfl rfl (fun _ => ?_)) | refine V1 rfl rfl rfl ?_) | (refine IsAt ?_; first | (with_reducible first | refine T1 ?_ | refine T3 ?_ | refine T5 ?_ | refine T6 ?_) | ((with_reducible show At _ (PBlock _ _ (Exit.exit _)) _ _); refine At_block_hit ?_)) | (refine IsJ ?_; first | refine J_seq ?_ | refine J_region ?_ | refine J_block ?_ | refine J_skip ?_ | refine J_ret ?_ | refine J_exit ?_ | (refine IsCond ?_; first | refine J_cond_t rfl ?_ | refine J_cond_f rfl ?_ | refine K1 rfl ?_ | refine J_cb rfl (fun _ => ?_) (fun _ => ?_))))
          · rename_i hlt2
            have hkm : k < m := by omega
            obtain ⟨x, hx⟩ : ∃ x, o.ws[k]? = some x := ⟨o.ws[k]'(by omega), List.getElem?_eq_getElem _⟩
            have hRW := RW.reads (List.mem_of_getElem? ho) ok
            refine JO_fact _ (fun w hs => hRW.some (by omega) hs (by simp)) ?_
            rintro ⟨wb, wo, hwa⟩
            rw [hwa] at hRW
            refine JO_val (OV_idx (off := of + i * 5) rfl rfl rfl rfl (by omega) (by omega) (by simp)) rfl rfl ?_
            repeat' (first | (refine IsO ?_; first | refine JO_nil ?_ | (refine IsG ?_; refine G1 rfl rfl ?_) | (refine IsMove ?_; first | refine M1 rfl rfl rfl ?_ | refine M2 rfl rfl rfl ?_) | (refine IsBin ?_; first | refine B1 rfl rfl rfl rfl ?_ | refine B2 rfl rfl rfl rfl ?_) | (refine IsLoad ?_; first | refine L1 rfl rfl rfl rfl ?_ | refine L2 rfl rfl rfl rfl rfl ?_) | (refine IsBox ?_; refine N1 rfl rfl rfl rfl (fun _ => ?_)) | refine V1 rfl rfl rfl ?_) | (refine IsAt ?_; first | (with_reducible first | refine T1 ?_ | refine T3 ?_ | refine T5 ?_ | refine T6 ?_) | ((with_reducible show At _ (PBlock _ _ (Exit.exit _)) _ _); refine At_block_hit ?_)) | (refine IsJ ?_; first | refine J_seq ?_ | refine J_region ?_ | refine J_block ?_ | refine J_skip ?_ | refine J_ret ?_ | refine J_exit ?_ | (refine IsCond ?_; first | refine J_cond_t rfl ?_ | refine J_cond_f rfl ?_ | refine K1 rfl ?_ | refine J_cb rfl (fun _ => ?_) (fun _ => ?_))))
            refine JO_q (OQ_read (i := i * 5 + 4) (v := .slice o.wa o.ws.length o.wc) hR (by simp) rfl rfl (by omega) (by rw [objs_get ho (by omega)]; rfl)) rfl rfl ?_
            rw [hwa]
            repeat' (first | (refine IsO ?_; first | refine JO_nil ?_ | (refine IsG ?_; refine G1 rfl rfl ?_) | (refine IsMove ?_; first | refine M1 rfl rfl rfl ?_ | refine M2 rfl rfl rfl ?_) | (refine IsBin ?_; first | refine B1 rfl rfl rfl rfl ?_ | refine B2 rfl rfl rfl rfl ?_) | (refine IsLoad ?_; first | refine L1 rfl rfl rfl rfl ?_ | refine L2 rfl rfl rfl rfl rfl ?_) | (refine IsBox ?_; refine N1 rfl rfl rfl rfl (fun _ => ?_)) | refine V1 rfl rfl rfl ?_) | (refine IsAt ?_; first | (with_reducible first | refine T1 ?_ | refine T3 ?_ | refine T5 ?_ | refine T6 ?_) | ((with_reducible show At _ (PBlock _ _ (Exit.exit _)) _ _); refine At_block_hit ?_)) | (refine IsJ ?_; first | refine J_seq ?_ | refine J_region ?_ | refine J_block ?_ | refine J_skip ?_ | refine J_ret ?_ | refine J_exit ?_ | (refine IsCond ?_; first | refine J_cond_t rfl ?_ | refine J_cond_f rfl ?_ | refine K1 rfl ?_ | refine J_cb rfl (fun _ => ?_) (fun _ => ?_))))
            refine JO_val (OV_idx (off := wo + k) rfl rfl rfl rfl (by omega) (by omega) (by simp)) rfl rfl ?_
            refine JO_q (OQ_read (i := k) (v := .int .i64 x) hRW (by simp) rfl rfl (by omega) (by simp [hx])) rfl rfl ?_
            have hclos : ∀ out2 : List Bool, (∀ o', os[i]? = some o' → HitI os out2 x) → upB out1 out2 → (∀ (k' : Nat) (y : Int), k' < k → (k' : Int) < o.p → o.ws[k']? = some y → HitI os out1 y) → ClosI os out2 i (k + 1) := by
              intro out2 hh hu hprev _ o' k' y ho' hk' hkp hy
              rw [ho] at ho'; injection ho' with ho'; subst ho'
              by_cases e : k' = k
              · subst e; rw [hx] at hy; injection hy with hy; subst hy; exact hh _ ho
              · exact (hprev k' y (by omega) hkp hy).up hu
            rcases hld i o ho k x (by omega) hx with rfl | ⟨j', o', hj', rfl⟩
            · repeat' (first | (refine IsO ?_; first | refine JO_nil ?_ | (refine IsG ?_; refine G1 rfl rfl ?_) | (refine IsMove ?_; first | refine M1 rfl rfl rfl ?_ | refine M2 rfl rfl rfl ?_) | (refine IsBin ?_; first | refine B1 rfl rfl rfl rfl ?_ | refine B2 rfl rfl rfl rfl ?_) | (refine IsLoad ?_; first | refine L1 rfl rfl rfl rfl ?_ | refine L2 rfl rfl rfl rfl rfl ?_) | (refine IsBox ?_; refine N1 rfl rfl rfl rfl (fun _ => ?_)) | refine V1 rfl rfl rfl ?_) | (refine IsAt ?_; first | (with_reducible first | refine T1 ?_ | refine T3 ?_ | refine T5 ?_ | refine T6 ?_) | ((with_reducible show At _ (PBlock _ _ (Exit.exit _)) _ _); refine At_block_hit ?_)) | (refine IsJ ?_; first | refine J_seq ?_ | refine J_region ?_ | refine J_block ?_ | refine J_skip ?_ | refine J_ret ?_ | refine J_exit ?_ | (refine IsCond ?_; first | refine J_cond_t rfl ?_ | refine J_cond_f rfl ?_ | refine K1 rfl ?_ | refine J_cb rfl (fun _ => ?_) (fun _ => ?_))))
              refine At_round (k + 1, out1, more) (by show m - (k + 1) < m - k; omega) ⟨by show k + 1 ≤ m; omega, hI1, hu1, hc1, hm1, fun e => ⟨(hcl1 e).1, hclos out1 (fun _ _ => .inl rfl) (fun _ h => h) fun k' y hk' hkp hy => (hcl1 e).2 hbi o k' y ho hk' hkp hy⟩⟩ (by repeat (first | exact True.intro | refine And.intro rfl ?_)) (fun H hl => hl)
            · have hoT := hobd j' o' hj'
              have hjl' := (List.getElem?_eq_some_iff.1 hj').1
              obtain ⟨bj, hbj⟩ : ∃ bj, out1[j']? = some bj := ⟨out1[j']'(by omega), List.getElem?_eq_getElem _⟩
              repeat' (first | (refine IsO ?_; first | refine JO_nil ?_ | (refine IsG ?_; refine G1 rfl rfl ?_) | (refine IsMove ?_; first | refine M1 rfl rfl rfl ?_ | refine M2 rfl rfl rfl ?_) | (refine IsBin ?_; first | refine B1 rfl rfl rfl rfl ?_ | refine B2 rfl rfl rfl rfl ?_) | (refine IsLoad ?_; first | refine L1 rfl rfl rfl rfl ?_ | refine L2 rfl rfl rfl rfl rfl ?_) | (refine IsBox ?_; refine N1 rfl rfl rfl rfl (fun _ => ?_)) | refine V1 rfl rfl rfl ?_) | (refine IsAt ?_; first | (with_reducible first | refine T1 ?_ | refine T3 ?_ | refine T5 ?_ | refine T6 ?_) | ((with_reducible show At _ (PBlock _ _ (Exit.exit _)) _ _); refine At_block_hit ?_)) | (refine IsJ ?_; first | refine J_seq ?_ | refine J_region ?_ | refine J_block ?_ | refine J_skip ?_ | refine J_ret ?_ | refine J_exit ?_ | (refine IsCond ?_; first | refine J_cond_t rfl ?_ | refine J_cond_f rfl ?_ | refine K1 rfl ?_ | refine J_cb rfl (fun _ => ?_) (fun _ => ?_))))
              rw [show (o'.i : Int) + 1 - 1 = (o'.i : Int) by omega]
              refine JO_l (OL_call [2, 2] rfl rfl rfl (Find_at hc size (by omega) hj') rfl) rfl rfl ?_
              rintro _ _ ⟨_, ⟨rfl, rfl⟩, rfl⟩
              repeat' (first | (refine IsO ?_; first | refine JO_nil ?_ | (refine IsG ?_; refine G1 rfl rfl ?_) | (refine IsMove ?_; first | refine M1 rfl rfl rfl ?_ | refine M2 rfl rfl rfl ?_) | (refine IsBin ?_; first | refine B1 rfl rfl rfl rfl ?_ | refine B2 rfl rfl rfl rfl ?_) | (refine IsLoad ?_; first | refine L1 rfl rfl rfl rfl ?_ | refine L2 rfl rfl rfl rfl rfl ?_) | (refine IsBox ?_; refine N1 rfl rfl rfl rfl (fun _ => ?_)) | refine V1 rfl rfl rfl ?_) | (refine IsAt ?_; first | (with_reducible first | refine T1 ?_ | refine T3 ?_ | refine T5 ?_ | refine T6 ?_) | ((with_reducible show At _ (PBlock _ _ (Exit.exit _)) _ _); refine At_block_hit ?_)) | (refine IsJ ?_; first | refine J_seq ?_ | refine J_region ?_ | refine J_block ?_ | refine J_skip ?_ | refine J_ret ?_ | refine J_exit ?_ | (refine IsCond ?_; first | refine J_cond_t rfl ?_ | refine J_cond_f rfl ?_ | refine K1 rfl ?_ | refine J_cb rfl (fun _ => ?_) (fun _ => ?_))))
              refine JO_val (OV_idx (off := 0 + j') rfl rfl rfl rfl (by omega) (by omega) (by simp)) rfl rfl ?_
              rw [Nat.zero_add]
              refine JO_q (OQ_load (v := .bool bj) rfl rfl (.tail _ (.tail _ (.head _))) (by simp [hbj])) rfl rfl ?_
              have hhit : ∀ out2 : List Bool, out2[j']? = some true → HitI os out2 ((o'.i : Int) + 1) := fun out2 h2 => .inr fun j2 o2 hj2 he => by
                have := Ch.one hc hj2 hj' (by omega)
                subst this
                exact h2
              cases bj with
              | true =>
                repeat' (first | (refine IsO ?_; first | refine JO_nil ?_ | (refine IsG ?_; refine G1 rfl rfl ?_) | (refine IsMove ?_; first | refine M1 rfl rfl rfl ?_ | refine M2 rfl rfl rfl ?_) | (refine IsBin ?_; first | refine B1 rfl rfl rfl rfl ?_ | refine B2 rfl rfl rfl rfl ?_) | (refine IsLoad ?_; first | refine L1 rfl rfl rfl rfl ?_ | refine L2 rfl rfl rfl rfl rfl ?_) | (refine IsBox ?_; refine N1 rfl rfl rfl rfl (fun _ => ?_)) | refine V1 rfl rfl rfl ?_) | (refine IsAt ?_; first | (with_reducible first | refine T1 ?_ | refine T3 ?_ | refine T5 ?_ | refine T6 ?_) | ((with_reducible show At _ (PBlock _ _ (Exit.exit _)) _ _); refine At_block_hit ?_)) | (refine IsJ ?_; first | refine J_seq ?_ | refine J_region ?_ | refine J_block ?_ | refine J_skip ?_ | refine J_ret ?_ | refine J_exit ?_ | (refine IsCond ?_; first | refine J_cond_t rfl ?_ | refine J_cond_f rfl ?_ | refine K1 rfl ?_ | refine J_cb rfl (fun _ => ?_) (fun _ => ?_))))
                exact At_round (k + 1, out1, more) (by show m - (k + 1) < m - k; omega) ⟨by show k + 1 ≤ m; omega, hI1, hu1, hc1, hm1, fun e => ⟨(hcl1 e).1, hclos out1 (fun _ _ => hhit out1 hbj) (fun _ h => h) fun k' y hk' hkp hy => (hcl1 e).2 hbi o k' y ho hk' hkp hy⟩⟩ (by repeat (first | exact True.intro | refine And.intro rfl ?_)) (fun H hl => hl.pick (is := [2, 2, 0, 0, 0]) rfl)
              | false =>
                repeat' (first | (refine IsO ?_; first | refine JO_nil ?_ | (refine IsG ?_; refine G1 rfl rfl ?_) | (refine IsMove ?_; first | refine M1 rfl rfl rfl ?_ | refine M2 rfl rfl rfl ?_) | (refine IsBin ?_; first | refine B1 rfl rfl rfl rfl ?_ | refine B2 rfl rfl rfl rfl ?_) | (refine IsLoad ?_; first | refine L1 rfl rfl rfl rfl ?_ | refine L2 rfl rfl rfl rfl rfl ?_) | (refine IsBox ?_; refine N1 rfl rfl rfl rfl (fun _ => ?_)) | refine V1 rfl rfl rfl ?_) | (refine IsAt ?_; first | (with_reducible first | refine T1 ?_ | refine T3 ?_ | refine T5 ?_ | refine T6 ?_) | ((with_reducible show At _ (PBlock _ _ (Exit.exit _)) _ _); refine At_block_hit ?_)) | (refine IsJ ?_; first | refine J_seq ?_ | refine J_region ?_ | refine J_block ?_ | refine J_skip ?_ | refine J_ret ?_ | refine J_exit ?_ | (refine IsCond ?_; first | refine J_cond_t rfl ?_ | refine J_cond_f rfl ?_ | refine K1 rfl ?_ | refine J_cb rfl (fun _ => ?_) (fun _ => ?_))))
                rw [show (o'.i : Int) + 1 - 1 = (o'.i : Int) by omega]
                refine JO_l (OL_call [0, 0] rfl rfl rfl (Find_at hc size (by omega) hj') rfl) rfl rfl ?_
                rintro _ _ ⟨_, ⟨rfl, rfl⟩, rfl⟩
                refine JO_val (OV_idx (off := 0 + j') rfl rfl rfl rfl (by omega) (by omega) (by simp)) rfl rfl ?_
                rw [Nat.zero_add]
                refine JO_l0 (OL_store (i := 2) rfl rfl rfl rfl rfl rfl rfl (putL_bools true (by omega))) rfl ?_
                rintro _ _ rfl
                repeat' (first | (refine IsO ?_; first | refine JO_nil ?_ | (refine IsG ?_; refine G1 rfl rfl ?_) | (refine IsMove ?_; first | refine M1 rfl rfl rfl ?_ | refine M2 rfl rfl rfl ?_) | (refine IsBin ?_; first | refine B1 rfl rfl rfl rfl ?_ | refine B2 rfl rfl rfl rfl ?_) | (refine IsLoad ?_; first | refine L1 rfl rfl rfl rfl ?_ | refine L2 rfl rfl rfl rfl rfl ?_) | (refine IsBox ?_; refine N1 rfl rfl rfl rfl (fun _ => ?_)) | refine V1 rfl rfl rfl ?_) | (refine IsAt ?_; first | (with_reducible first | refine T1 ?_ | refine T3 ?_ | refine T5 ?_ | refine T6 ?_) | ((with_reducible show At _ (PBlock _ _ (Exit.exit _)) _ _); refine At_block_hit ?_)) | (refine IsJ ?_; first | refine J_seq ?_ | refine J_region ?_ | refine J_block ?_ | refine J_skip ?_ | refine J_ret ?_ | refine J_exit ?_ | (refine IsCond ?_; first | refine J_cond_t rfl ?_ | refine J_cond_f rfl ?_ | refine K1 rfl ?_ | refine J_cb rfl (fun _ => ?_) (fun _ => ?_))))
                have hcs := cfB_set hbj
                exact At_round (k + 1, out1.set j' true, true) (by show m - (k + 1) < m - k; omega) ⟨by show k + 1 ≤ m; omega, RcI.set (ws := ws) (T := T) hI1 (.ref (hI1.snd i hbi) ho hlt2 hx hj' rfl), fun j h => upB_set j (hu1 j h), by show cfB (out1.set j' true) ≤ _; omega, fun _ => by show cfB (out1.set j' true) < _; omega, fun e => by cases e⟩ (by repeat (first | exact True.intro | refine And.intro rfl ?_)) (fun H hl => hl.pick (is := [0, 2, 0, 0, 0]) rfl)
          · have hkm : k = m := by omega
            refine At_round (i + 1, out1, more) (by show os.length - (i + 1) < os.length - i; omega) ⟨by show i + 1 ≤ os.length; omega, hI1, hu1, hc1, hm1, fun e i' hi' k' => ?_⟩ (by repeat (first | exact True.intro | refine And.intro rfl ?_)) (fun H hl => hl)
            by_cases e2 : i' = i
            · subst e2
              intro ht o' k'' y ho' hk'' hkp hy
              rw [ho] at ho'; injection ho' with ho'; subst ho'
              exact (hcl1 e).2 ht o k'' y ho (by omega) hkp hy
            · exact (hcl1 e).1 i' (by dsimp only at hi'; omega) k'
      · have hie : i = os.length := by omega
        subst hie
        cases more with
        | true => exact At_round (out1, true) (by have := hm1 rfl; show cfB out1 + 1 < cfB out + 1; omega) ⟨hI1, fun z hz => (hroot z hz).up hu1, fun e => by cases e⟩ (by repeat (first | exact True.intro | refine And.intro rfl ?_)) (fun H hl => hl)
        | false => exact At_round (out1, false) (by show 0 < cfB out + 1; omega) ⟨hI1, fun z hz => (hroot z hz).up hu1, fun _ => hcl1 rfl⟩ (by repeat (first | exact True.intro | refine And.intro rfl ?_)) (fun H hl => hl)
end ops
end Go.Proofs.Ytahfnbpbdnmggaa
/-
  Our own: where a graph's nodes lie: at objects that are no fillers.
-/
set_option linter.unusedVariables false
set_option linter.unusedSimpArgs false
namespace Go.Proofs.Ytahfnbpbdnmggaa
open Go.Sep
def hsum (hs : List (Int × Nat × Int)) : Nat := (hs.map fun h => 1 + h.2.1).sum
theorem hsum_app {a b : List (Int × Nat × Int)} : hsum (a ++ b) = hsum a + hsum b := by unfold hsum; rw [List.map_append, List.sum_append]
def LGok (s : LG) : Prop := s.T = hsum s.hs ∧ ∀ q ∈ s.at_, ∃ (j : Nat) (h : Int × Nat × Int), s.hs[j]? = some h ∧ h.1 ≠ 15 ∧ q = (hsum (s.hs.take j) : Int)
theorem LGok.snoc {i : Nat} {s : LG} (h : LGok s) (x : Int × Nat × Int) : LGok ⟨i, s.T + 1 + x.2.1, s.at_, s.hs ++ [x]⟩ := by
  refine ⟨?_, fun q hq => ?_⟩
  · show s.T + 1 + x.2.1 = hsum (s.hs ++ [x])
    rw [hsum_app, h.1]
    show _ = hsum s.hs + (1 + x.2.1 + 0)
    omega
  · obtain ⟨j, y, h1, h2, h3⟩ := h.2 q hq
    have hl := (List.getElem?_eq_some_iff.1 h1).1
    refine ⟨j, y, ?_, h2, ?_⟩
    · show (s.hs ++ [x])[j]? = _
      rw [List.getElem?_append_left hl]; exact h1
    · show q = (hsum ((s.hs ++ [x]).take j) : Int)
      rw [List.take_append_of_le_length (by omega)]; exact h3
theorem LGok.step {s : LG} (h : LGok s) (y : ND) : LGok (stepG s y) := by
  have hf : LGok (fillG s y) := by
    unfold fillG
    split
    · exact h.snoc (15, (y.k % 2).toNat, 0)
    · exact h
  generalize hs1 : fillG s y = s1 at hf
  unfold stepG
  rw [show fillG s y = s1 from hs1]
  unfold nodeG
  have h1 := hf.snoc (i := s1.i + 1) (y.k % 15, lenG y, (y.es.length : Int))
  refine ⟨h1.1, fun q hq => ?_⟩
  dsimp only at hq
  rcases List.mem_append.1 hq with hq | hq
  · exact h1.2 q hq
  · rw [List.mem_singleton.1 hq]
    refine ⟨s1.hs.length, (y.k % 15, lenG y, (y.es.length : Int)), ?_, ?_, ?_⟩
    · show (s1.hs ++ [_])[s1.hs.length]? = _
      rw [List.getElem?_append_right (Nat.le_refl _), Nat.sub_self]; rfl
    · show y.k % 15 ≠ 15
      have := Int.emod_lt_of_pos y.k (show (0 : Int) < 15 by decide)
      omega
    · show (s1.T : Int) = (hsum ((s1.hs ++ [_]).take s1.hs.length) : Int)
      rw [List.take_append_of_le_length (Nat.le_refl _), List.take_length, ← hf.1]
theorem layG_ok (ns : List ND) : LGok (layG ns) := by
  unfold layG
  have h0 : LGok ⟨0, 0, [], []⟩ := ⟨rfl, fun q hq => by cases hq⟩
  generalize (⟨0, 0, [], []⟩ : LG) = s at h0
  induction ns generalizing s with
  | nil => exact h0
  | cons y r ih => exact ih _ (h0.step y)
theorem Ch.hsum {ws : List Int} : ∀ {os : List RO} {i T j : Nat} {o : RO}, Ch ws i os T → os[j]? = some o → o.i = i + Go.Proofs.Ytahfnbpbdnmggaa.hsum ((os.map hdO).take j)
  | [], _, _, _, _, _, hj => by cases hj
  | x :: r, i, T, 0, o, h, hj => by
    injection hj with hj; subst hj
    exact h.1
  | x :: r, i, T, j + 1, o, h, hj => by
    have h1 := Ch.hsum h.2.2.2.2 (j := j) hj
    rw [h1, List.map_cons, List.take_succ_cons]
    show _ = i + (1 + x.ws.length + (((r.map hdO).take j).map fun h => 1 + h.2.1).sum)
    unfold Go.Proofs.Ytahfnbpbdnmggaa.hsum
    omega
/-- A node's place is an object's. -/
theorem BInv.nodes {n T : Nat} {ws : List Int} {st : List Bool} {os : List RO} {ns : List ND} (h : BInv n T ws st os (layG ns).hs) {q : Int} (hq : q ∈ (layG ns).at_) : ∃ (j : Nat) (o : RO), os[j]? = some o ∧ (o.i : Int) = q ∧ o.k ≠ 15 := by
  obtain ⟨j, y, h1, h2, h3⟩ := (layG_ok ns).2 q hq
  rw [← h.hd] at h1 h3
  rw [List.getElem?_map] at h1
  cases ho : os[j]? with
  | none => rw [ho] at h1; cases h1
  | some o =>
    rw [ho] at h1
    injection h1 with h1
    refine ⟨j, o, ho, ?_, ?_⟩
    · rw [h3, h.ch.hsum ho, Nat.zero_add]
    · have : y.1 = o.k := by rw [← h1]
      rw [← this]; exact h2
/-- A root is nought, or leads to an object. -/
theorem BInv.root {n T : Nat} {ws : List Int} {st : List Bool} {os : List RO} {ns : List ND} (h : BInv n T ws st os (layG ns).hs) (z : Int) : plcI (layG ns).at_ z = 0 ∨ ∃ (j : Nat) (o : RO), os[j]? = some o ∧ plcI (layG ns).at_ z = (o.i : Int) + 1 ∧ o.k ≠ 15 := by
  unfold plcI
  split
  · exact .inl rfl
  · rename_i hne
    have m0 : 0 ≤ z % (((layG ns).at_.length : Int) + 1) := Int.emod_nonneg _ (by omega)
    have m1 : z % (((layG ns).at_.length : Int) + 1) < ((layG ns).at_.length : Int) + 1 := Int.emod_lt_of_pos _ (by omega)
    obtain ⟨k, hk⟩ := Int.eq_ofNat_of_zero_le m0
    rw [hk] at hne m1 ⊢
    have hkl : k < (layG ns).at_.length := by omega
    rw [Int.toNat_natCast, List.getD_eq_getElem?_getD, List.getElem?_eq_getElem hkl]
    obtain ⟨j, o, h1, h2, h3⟩ := h.nodes (List.getElem_mem hkl)
    exact .inr ⟨j, o, h1, by rw [h2]; exact Int.add_comm _ _, h3⟩
end Go.Proofs.Ytahfnbpbdnmggaa
/-
  Our own: besomlaw14.Is; besomlaw14.reached.
-/
set_option linter.unusedVariables false
set_option linter.unusedSimpArgs false
namespace Go.Proofs.Ytahfnbpbdnmggaa
open Go.Sep
section ops
variable {p bw bs n T S : Nat} {ws V : List Int} {st : List Bool} {os : List RO} {a : Option Addr} {cap : Nat} {wa : Option Addr} {wc : Nat} {Rw : HP}
set_option maxHeartbeats 16000000 in
theorem Is14_spec (h : HT n S V st) (hc : Ch V 0 os S) (hw : ws.length = n) (hR : Reads Rw 1 n wa wc (intsV ws)) (hTn : T ≤ n) (hz : ∀ x, S ≤ x → x < T → V[x]? = some 0) (hk : ∀ x, T ≤ x → V[x]? = ws[x]?) :
    Does Try.prog 28 [ptr p 0, .slice wa n wc, .int .i64 T, refV n a os.length cap] (heapL p bw bs n V S st ++ (refL a cap os ++ [Rw]))
    (fun v l => v = .bool true ∧ l = heapL p bw bs n V S st ++ (refL a cap os ++ [Rw])) := by
  have hwl := h.wl
  have hnb := h.nb
  have htn := h.tn
  refine Does.of tiok Try.func28 (by kernel_rfl) rfl Try.ntmps28 rfl ?_
  intro W fr
  repeat' (first | (refine IsO ?_; first | refine JO_nil ?_ | (refine IsBin ?_; refine B1 rfl rfl rfl rfl ?_) | (refine IsLoad ?_; refine L2 rfl rfl rfl rfl rfl ?_) | (refine IsBox ?_; refine N1 rfl rfl rfl rfl (fun _ => ?_)) | refine V1 rfl rfl rfl ?_) | (refine IsAt ?_; first | (with_reducible first | refine T1 ?_ | refine T3 ?_ | refine T5 ?_ | refine T6 ?_) | ((with_reducible show At _ (PBlock _ _ (Exit.exit _)) _ _); refine At_block_hit ?_)) | (refine IsJ ?_; first | refine J_seq ?_ | refine J_region ?_ | refine J_block ?_ | refine J_skip ?_ | refine J_ret ?_ | refine J_exit ?_ | (refine IsCond ?_; first | refine J_cond_f rfl ?_ | refine K4 rfl ?_ | refine J_cb rfl (fun _ => ?_) (fun _ => ?_))))
  refine JO_l (OL_call [1, 1, 1, 1, 1] rfl rfl rfl (Is_spec h hc) rfl) rfl rfl ?_
  rintro _ _ ⟨_, ⟨rfl, rfl⟩, rfl⟩
  repeat' (first | (refine IsO ?_; first | refine JO_nil ?_ | (refine IsBin ?_; refine B1 rfl rfl rfl rfl ?_) | (refine IsLoad ?_; refine L2 rfl rfl rfl rfl rfl ?_) | (refine IsBox ?_; refine N1 rfl rfl rfl rfl (fun _ => ?_)) | refine V1 rfl rfl rfl ?_) | (refine IsAt ?_; first | (with_reducible first | refine T1 ?_ | refine T3 ?_ | refine T5 ?_ | refine T6 ?_) | ((with_reducible show At _ (PBlock _ _ (Exit.exit _)) _ _); refine At_block_hit ?_)) | (refine IsJ ?_; first | refine J_seq ?_ | refine J_region ?_ | refine J_block ?_ | refine J_skip ?_ | refine J_ret ?_ | refine J_exit ?_ | (refine IsCond ?_; first | refine J_cond_f rfl ?_ | refine K4 rfl ?_ | refine J_cb rfl (fun _ => ?_) (fun _ => ?_))))
  have hM2 : Does Try.prog 23 [ptr p 0] (heapL p bw bs n V S st) _ := heapWords hwl hnb
  refine JO_l (OL_call [0, 0, 0] rfl rfl rfl hM2 rfl) rfl rfl ?_
  rintro _ _ ⟨_, ⟨a0, cap0, ha0, rfl, rfl⟩, rfl⟩
  repeat' (first | (refine IsO ?_; first | refine JO_nil ?_ | (refine IsBin ?_; refine B1 rfl rfl rfl rfl ?_) | (refine IsLoad ?_; refine L2 rfl rfl rfl rfl rfl ?_) | (refine IsBox ?_; refine N1 rfl rfl rfl rfl (fun _ => ?_)) | refine V1 rfl rfl rfl ?_) | (refine IsAt ?_; first | (with_reducible first | refine T1 ?_ | refine T3 ?_ | refine T5 ?_ | refine T6 ?_) | ((with_reducible show At _ (PBlock _ _ (Exit.exit _)) _ _); refine At_block_hit ?_)) | (refine IsJ ?_; first | refine J_seq ?_ | refine J_region ?_ | refine J_block ?_ | refine J_skip ?_ | refine J_ret ?_ | refine J_exit ?_ | (refine IsCond ?_; first | refine J_cond_f rfl ?_ | refine K4 rfl ?_ | refine J_cb rfl (fun _ => ?_) (fun _ => ?_))))
  refine JO_l (OL_call [1, 1, 1] rfl rfl rfl heapTop rfl) rfl rfl ?_
  rintro _ _ ⟨_, ⟨rfl, rfl⟩, rfl⟩
  repeat' (first | (refine IsO ?_; first | refine JO_nil ?_ | (refine IsBin ?_; refine B1 rfl rfl rfl rfl ?_) | (refine IsLoad ?_; refine L2 rfl rfl rfl rfl rfl ?_) | (refine IsBox ?_; refine N1 rfl rfl rfl rfl (fun _ => ?_)) | refine V1 rfl rfl rfl ?_) | (refine IsAt ?_; first | (with_reducible first | refine T1 ?_ | refine T3 ?_ | refine T5 ?_ | refine T6 ?_) | ((with_reducible show At _ (PBlock _ _ (Exit.exit _)) _ _); refine At_block_hit ?_)) | (refine IsJ ?_; first | refine J_seq ?_ | refine J_region ?_ | refine J_block ?_ | refine J_skip ?_ | refine J_ret ?_ | refine J_exit ?_ | (refine IsCond ?_; first | refine J_cond_f rfl ?_ | refine K4 rfl ?_ | refine J_cb rfl (fun _ => ?_) (fun _ => ?_))))
  have hRw : Reads (row 3 1 a0 n cap0 (intsV V)) 1 n a0 cap0 (intsV V) := Reads.row (by simp [hwl]) ha0
  refine J_loop (α := Nat) (fun x => S ≤ x ∧ x ≤ n) (fun x => [(1, .slice wa n wc), (2, .int .i64 T), (9, .slice a0 n cap0), (10, .int .i64 x)])
    (fun x => heapL p bw bs n V S st ++ (refL a cap os ++ [Rw, row 3 1 a0 n cap0 (intsV V)])) (fun x => n - x) S ⟨Nat.le_refl _, htn⟩ (by repeat (first | exact True.intro | refine And.intro rfl ?_)) (fun H hl => ?_) ?_
  · exact hl.pick (is := [0, 0, 0, 1, 1, 2, 0]) rfl
  rintro x ⟨hx1, hx2⟩
  repeat' (first | (refine IsO ?_; first | refine JO_nil ?_ | (refine IsBin ?_; refine B1 rfl rfl rfl rfl ?_) | (refine IsLoad ?_; refine L2 rfl rfl rfl rfl rfl ?_) | (refine IsBox ?_; refine N1 rfl rfl rfl rfl (fun _ => ?_)) | refine V1 rfl rfl rfl ?_) | (refine IsAt ?_; first | (with_reducible first | refine T1 ?_ | refine T3 ?_ | refine T5 ?_ | refine T6 ?_) | ((with_reducible show At _ (PBlock _ _ (Exit.exit _)) _ _); refine At_block_hit ?_)) | (refine IsJ ?_; first | refine J_seq ?_ | refine J_region ?_ | refine J_skip ?_ | refine J_ret ?_ | refine J_exit ?_ | (refine IsCond ?_; first | refine J_cond_f rfl ?_ | refine K4 rfl ?_ | refine J_cb rfl (fun _ => ?_) (fun _ => ?_))))
  · rename_i hlt
    refine J_block ?_
    obtain ⟨y, hy⟩ : ∃ y, V[x]? = some y := ⟨V[x]'(by omega), List.getElem?_eq_getElem _⟩
    refine J_fact _ (fun w hs => hRw.some (by omega) hs (by simp)) ?_
    rintro ⟨b2, o2, rfl⟩
    refine J_fact _ (fun w hs => hR.some (by omega) hs (by simp)) ?_
    rintro ⟨b3, o3, rfl⟩
    repeat' (first | (refine IsO ?_; first | refine JO_nil ?_ | (refine IsBin ?_; refine B1 rfl rfl rfl rfl ?_) | (refine IsLoad ?_; refine L2 rfl rfl rfl rfl rfl ?_) | (refine IsBox ?_; refine N1 rfl rfl rfl rfl (fun _ => ?_)) | refine V1 rfl rfl rfl ?_) | (refine IsAt ?_; first | (with_reducible first | refine T1 ?_ | refine T3 ?_ | refine T5 ?_ | refine T6 ?_) | ((with_reducible show At _ (PBlock _ _ (Exit.exit _)) _ _); refine At_block_hit ?_)) | (refine IsJ ?_; first | refine J_seq ?_ | refine J_region ?_ | refine J_block ?_ | refine J_skip ?_ | refine J_ret ?_ | refine J_exit ?_ | (refine IsCond ?_; first | refine J_cond_f rfl ?_ | refine K4 rfl ?_ | refine J_cb rfl (fun _ => ?_) (fun _ => ?_))))
    refine J_draw [0, 0, 0, 0, 0, 0, 0, 1, 0, 0, 0, 0, 0, 0, 0, 0, 0, 0, 1, 0, 0, 0, 1, 0, 0, 0] (List.range 26) (by kernel_rfl) (by kernel_rfl) ?_
    by_cases hxT : x < T
    · have h0 := hz x hx1 hxT
      rw [hy] at h0
      injection h0 with h0
      subst h0
      repeat' (refine IsX ?_; first | (refine JX_nil ?_; refine At_np ?_) | (refine JX_op rfl ?_; refine XsO ?_; first | (refine XsG ?_; refine XG1 rfl rfl rfl ?_) | (refine XsMove ?_; first | refine XM1 rfl rfl rfl rfl ?_ | refine XM2 rfl rfl rfl rfl ?_ | refine XM4 rfl rfl rfl rfl ?_) | refine XV1 rfl rfl rfl rfl ?_))
      refine JX_val rfl rfl (OV_idx (off := o2 + x) rfl rfl rfl rfl (by omega) (by omega) (by simp)) rfl rfl ?_
      refine JX_q rfl rfl (OQ_read (i := x) (v := .int .i64 0) hRw (by simp) rfl rfl (by omega) (by simp [intsV, hy])) rfl rfl ?_
      repeat' (refine IsX ?_; first | (refine JX_nil ?_; refine At_np ?_) | (refine JX_op rfl ?_; refine XsO ?_; first | (refine XsG ?_; refine XG1 rfl rfl rfl ?_) | (refine XsMove ?_; first | refine XM1 rfl rfl rfl rfl ?_ | refine XM2 rfl rfl rfl rfl ?_ | refine XM4 rfl rfl rfl rfl ?_) | refine XV1 rfl rfl rfl rfl ?_))
      repeat' (first | (refine IsO ?_; first | refine JO_nil ?_ | (refine IsBin ?_; refine B1 rfl rfl rfl rfl ?_) | (refine IsLoad ?_; refine L2 rfl rfl rfl rfl rfl ?_) | (refine IsBox ?_; refine N1 rfl rfl rfl rfl (fun _ => ?_)) | refine V1 rfl rfl rfl ?_) | (refine IsAt ?_; first | (with_reducible first | refine T1 ?_ | refine T3 ?_ | refine T5 ?_ | refine T6 ?_) | ((with_reducible show At _ (PBlock _ _ (Exit.exit _)) _ _); refine At_block_hit ?_)) | (refine IsJ ?_; first | refine J_seq ?_ | refine J_region ?_ | refine J_block ?_ | refine J_skip ?_ | refine J_ret ?_ | refine J_exit ?_ | (refine IsCond ?_; first | refine J_cond_f rfl ?_ | refine K4 rfl ?_ | refine J_cb rfl (fun _ => ?_) (fun _ => ?_))))
      exact At_round (x + 1) (by show n - (x + 1) < n - x; omega) ⟨by omega, by omega⟩ (by repeat (first | exact True.intro | refine And.intro rfl ?_)) (fun H hl => hl)
    · have h0 := hk x (by omega)
      rw [hy] at h0
      repeat' (refine IsX ?_; first | (refine JX_nil ?_; refine At_np ?_) | (refine JX_op rfl ?_; refine XsO ?_; first | (refine XsG ?_; refine XG1 rfl rfl rfl ?_) | (refine XsMove ?_; first | refine XM1 rfl rfl rfl rfl ?_ | refine XM2 rfl rfl rfl rfl ?_ | refine XM4 rfl rfl rfl rfl ?_) | refine XV1 rfl rfl rfl rfl ?_))
      refine JX_val rfl rfl (OV_idx (off := o2 + x) rfl rfl rfl rfl (by omega) (by omega) (by simp)) rfl rfl ?_
      refine JX_q rfl rfl (OQ_read (i := x) (v := .int .i64 y) hRw (by simp) rfl rfl (by omega) (by simp [intsV, hy])) rfl rfl ?_
      repeat' (refine IsX ?_; first | (refine JX_nil ?_; refine At_np ?_) | (refine JX_op rfl ?_; refine XsO ?_; first | (refine XsG ?_; refine XG1 rfl rfl rfl ?_) | (refine XsMove ?_; first | refine XM1 rfl rfl rfl rfl ?_ | refine XM2 rfl rfl rfl rfl ?_ | refine XM4 rfl rfl rfl rfl ?_) | refine XV1 rfl rfl rfl rfl ?_))
      refine JX_val rfl rfl (OV_idx (off := o3 + x) rfl rfl rfl rfl (by omega) (by omega) (by simp)) rfl rfl ?_
      refine JX_q rfl rfl (OQ_read (i := x) (v := .int .i64 y) hR (by simp) rfl rfl (by omega) (by simp [intsV, ← h0])) rfl rfl ?_
      repeat' (refine IsX ?_; first | (refine JX_nil ?_; refine At_np ?_) | (refine JX_op rfl ?_; refine XsO ?_; first | (refine XsG ?_; refine XG1 rfl rfl rfl ?_) | (refine XsMove ?_; first | refine XM1 rfl rfl rfl rfl ?_ | refine XM2 rfl rfl rfl rfl ?_ | refine XM4 rfl rfl rfl rfl ?_) | refine XV1 rfl rfl rfl rfl ?_))
      repeat' (first | (refine IsO ?_; first | refine JO_nil ?_ | (refine IsBin ?_; refine B1 rfl rfl rfl rfl ?_) | (refine IsLoad ?_; refine L2 rfl rfl rfl rfl rfl ?_) | (refine IsBox ?_; refine N1 rfl rfl rfl rfl (fun _ => ?_)) | refine V1 rfl rfl rfl ?_) | (refine IsAt ?_; first | (with_reducible first | refine T1 ?_ | refine T3 ?_ | refine T5 ?_ | refine T6 ?_) | ((with_reducible show At _ (PBlock _ _ (Exit.exit _)) _ _); refine At_block_hit ?_)) | (refine IsJ ?_; first | refine J_seq ?_ | refine J_region ?_ | refine J_block ?_ | refine J_skip ?_ | refine J_ret ?_ | refine J_exit ?_ | (refine IsCond ?_; first | refine J_cond_f rfl ?_ | refine K4 rfl ?_ | refine J_cb rfl (fun _ => ?_) (fun _ => ?_))))
      exact At_round (x + 1) (by show n - (x + 1) < n - x; omega) ⟨by omega, by omega⟩ (by repeat (first | exact True.intro | refine And.intro rfl ?_)) (fun H hl => hl)
  · exact At_ret rfl rfl (.tmp rfl .nil) rfl (is := [0, 0, 0, 0, 0, 0]) rfl ⟨by simp [retV], rfl⟩
end ops
end Go.Proofs.Ytahfnbpbdnmggaa
/-
  Our own: besomlaw14.reached: a graph's heap, marks of all that is reached.
-/
set_option linter.unusedVariables false
set_option linter.unusedSimpArgs false
namespace Go.Proofs.Ytahfnbpbdnmggaa
open Go.Sep
/-- References lead to objects that are no fillers. -/
theorem leads_obj {n T : Nat} {ws : List Int} {st : List Bool} {os : List RO} (h : HT n T ws st) (hc : Ch ws 0 os T) (hr : RefsOk ws st) {j k : Nat} {o : RO} {y : Int} (ho : os[j]? = some o) (hk : (k : Int) < o.p) (hy : o.ws[k]? = some y) : y = 0 ∨ ∃ (j' : Nat) (o' : RO), os[j']? = some o' ∧ y = (o'.i : Int) + 1 ∧ o'.k ≠ 15 := by
  have hl := (refs_iff h hc).1 hr o (List.mem_of_getElem? ho) k y hk hy
  have h2 := of_decide_eq_true hl
  rcases h2 with h0 | ⟨h1, hs, h15⟩
  · exact .inl h0
  · right
    have hst : (0 = T ∨ st[0]? = some true) := h.zero.imp Eq.symm id
    obtain ⟨o', ho', he⟩ := Ch.find h hc hst (y - 1).toNat (Nat.zero_le _) hs
    obtain ⟨j', hj'⟩ := List.getElem?_of_mem ho'
    refine ⟨j', o', hj', by omega, ?_⟩
    have hat := (hc.at hj').2
    rw [← he, List.getD_eq_getElem?_getD, hat.2.2.1, Option.getD_some, (packI_un hat.2.1).2.2.1] at h15
    exact h15
theorem rch_live {n T : Nat} {ws : List Int} {st : List Bool} {os : List RO} {rts : List Int} (h : HT n T ws st) (hc : Ch ws 0 os T) (hr : RefsOk ws st) (hrt : ∀ z ∈ rts, z = 0 ∨ ∃ (j : Nat) (o : RO), os[j]? = some o ∧ z = (o.i : Int) + 1 ∧ o.k ≠ 15) {j : Nat} (hj : Rch os rts j) {o : RO} (ho : os[j]? = some o) : o.k ≠ 15 := by
  cases hj with
  | root hz hj he =>
    rw [ho] at hj; injection hj with hj; subst hj
    rcases hrt _ hz with h0 | ⟨j2, o2, hj2, he2, h15⟩
    · omega
    · have := Ch.one hc hj2 ho (by omega)
      subst this
      rw [ho] at hj2; injection hj2 with hj2; rw [hj2]; exact h15
  | ref _ hi hk hy hj he =>
    rw [ho] at hj; injection hj with hj; subst hj
    rcases leads_obj h hc hr hi hk hy with h0 | ⟨j2, o2, hj2, he2, h15⟩
    · omega
    · have := Ch.one hc hj2 ho (by omega)
      subst this
      rw [ho] at hj2; injection hj2 with hj2; rw [hj2]; exact h15
/-- The marks of all that is reached. -/
def RMk (os : List RO) (rts : List Int) (ms : List Nat) : Prop := ∀ (j : Nat) (o : RO), os[j]? = some o → (lvB ms o = true ↔ Rch os rts j)
theorem RMk.right {n T : Nat} {ws : List Int} {st : List Bool} {os : List RO} {rts : List Int} {ms : List Nat} (h : HT n T ws st) (hc : Ch ws 0 os T) (hr : RefsOk ws st) (hm : RMk os rts ms) : RightP ms os := by
  intro j o ho hl k y hk hy
  rcases leads_obj h hc hr ho hk hy with h0 | ⟨j2, o2, hj2, he2, h15⟩
  · exact .inl h0
  · exact .inr ⟨j2, o2, hj2, (hm j2 o2 hj2).2 (.ref ((hm j o ho).1 hl) ho hk hy hj2 he2), by omega⟩
theorem RMk.roots {n T : Nat} {ws : List Int} {st : List Bool} {os : List RO} {rts : List Int} {ms : List Nat} (hrt : ∀ z ∈ rts, z = 0 ∨ ∃ (j : Nat) (o : RO), os[j]? = some o ∧ z = (o.i : Int) + 1 ∧ o.k ≠ 15) (hm : RMk os rts ms) : ∀ z ∈ rts, z = 0 ∨ LiveAt ms os (z - 1) := by
  intro z hz
  rcases hrt z hz with h0 | ⟨j, o, hj, he, h15⟩
  · exact .inl h0
  · exact .inr ⟨j, o, hj, (hm j o hj).2 (.root hz hj he), by omega⟩
set_option maxHeartbeats 16000000 in
theorem Reached_spec {R : HP} {g : GG} (h : GOk R g) (hf : fewB g = true) : Does Try.prog 19 [gV g] [R]
    (fun v l => ∃ (p bw bs n T : Nat) (ws : List Int) (st : List Bool) (a : Option Addr) (cap : Nat) (os : List RO) (ra : Option Addr) (rc pm bm : Nat) (ms : List Nat) (b : Nat) (rts : List Int), BInv n T ws st os (layG g.ns).hs ∧ n = 4 + needG g.ns ∧ MI n ms ∧ rts = g.rs.map (plcI (layG g.ns).at_) ∧ RMk os rts ms ∧
      (∀ z ∈ rts, z = 0 ∨ ∃ (j : Nat) (o : RO), os[j]? = some o ∧ z = (o.i : Int) + 1 ∧ o.k ≠ 15) ∧
      v = .tuple #[ptr p 0, .slice ra rts.length rc, ptr pm 0, refV n a os.length cap, sl b os.length] ∧ l = heapL p bw bs n ws T st ++ marksL pm bm n ms ++ (refL a cap os ++ [rowz 3 1 ra rts.length rc (intsV rts), blk b (stB ms os) 4, R])) := by
  obtain ⟨hn14, hr14, he10, hnd224⟩ := few_need h hf
  refine Does.of tiok Try.func19 (by kernel_rfl) rfl Try.ntmps19 rfl ?_
  intro W fr
  have hB3 : Does Try.prog 9 [gV g, .int .i64 3] [R] _ := Build_spec h hf 3 (by omega)
  repeat' (first | (refine IsO ?_; first | refine JO_nil ?_ | (refine IsBin ?_; refine B1 rfl rfl rfl rfl ?_) | (refine IsLoad ?_; first | refine L1 rfl rfl rfl rfl ?_ | refine L2 rfl rfl rfl rfl rfl ?_) | (refine IsStore ?_; refine S1 rfl rfl rfl rfl rfl rfl rfl (fun _ => ?_)) | (refine IsBox ?_; refine N1 rfl rfl rfl rfl (fun _ => ?_)) | (refine IsAlloc ?_; refine N2 rfl rfl rfl rfl (fun _ => ?_)) | refine V1 rfl rfl rfl ?_) | (refine IsAt ?_; first | (with_reducible first | refine T1 ?_ | refine T3 ?_ | refine T5 ?_ | refine T6 ?_) | ((with_reducible show At _ (PBlock _ _ (Exit.exit _)) _ _); refine At_block_hit ?_)) | (refine IsJ ?_; first | refine J_seq ?_ | refine J_region ?_ | refine J_block ?_ | refine J_skip ?_ | refine J_ret ?_ | refine J_exit ?_ | (refine IsCond ?_; first | refine J_cond_t rfl ?_ | refine J_cond_f rfl ?_ | refine J_cb rfl (fun _ => ?_) (fun _ => ?_))))
  refine JO_l (OL_call [2] rfl rfl rfl (hB3) rfl) rfl rfl ?_; rintro _ _ ⟨_, ⟨p, bw, bs, n, T, ws, st, a, cap, os, ra, rc, hB, hn, hT, rfl, rfl⟩, rfl⟩
  clear hB3
  have htn := hB.ht.tn
  have hlen := hB.ch.len
  obtain ⟨rts, hrts⟩ : ∃ rts, rts = g.rs.map (plcI (layG g.ns).at_) := ⟨_, rfl⟩
  have hrl : g.rs.length = rts.length := by rw [hrts, List.length_map]
  rw [← hrts, hrl]
  have hroot : ∀ z ∈ rts, z = 0 ∨ ∃ (j : Nat) (o : RO), os[j]? = some o ∧ z = (o.i : Int) + 1 ∧ o.k ≠ 15 := by
    intro z hz
    rw [hrts] at hz
    obtain ⟨y, _, rfl⟩ := List.mem_map.1 hz
    exact hB.root y
  repeat' (first | (refine IsO ?_; first | refine JO_nil ?_ | (refine IsBin ?_; refine B1 rfl rfl rfl rfl ?_) | (refine IsLoad ?_; first | refine L1 rfl rfl rfl rfl ?_ | refine L2 rfl rfl rfl rfl rfl ?_) | (refine IsStore ?_; refine S1 rfl rfl rfl rfl rfl rfl rfl (fun _ => ?_)) | (refine IsBox ?_; refine N1 rfl rfl rfl rfl (fun _ => ?_)) | (refine IsAlloc ?_; refine N2 rfl rfl rfl rfl (fun _ => ?_)) | refine V1 rfl rfl rfl ?_) | (refine IsAt ?_; first | (with_reducible first | refine T1 ?_ | refine T3 ?_ | refine T5 ?_ | refine T6 ?_) | ((with_reducible show At _ (PBlock _ _ (Exit.exit _)) _ _); refine At_block_hit ?_)) | (refine IsJ ?_; first | refine J_seq ?_ | refine J_region ?_ | refine J_block ?_ | refine J_skip ?_ | refine J_ret ?_ | refine J_exit ?_ | (refine IsCond ?_; first | refine J_cond_t rfl ?_ | refine J_cond_f rfl ?_ | refine J_cb rfl (fun _ => ?_) (fun _ => ?_))))
  refine JO_l (OL_call [1, 1, 1] rfl rfl rfl (heapSize) rfl) rfl rfl ?_; rintro _ _ ⟨_, ⟨rfl, rfl⟩, rfl⟩
  have hN : Does Try.prog 10 [.int .i64 n] [] _ := marksNew n (by omega) hB.ht.nb
  refine JO_l (OL_call [] rfl rfl rfl (hN) rfl) rfl rfl ?_; rintro _ _ ⟨_, ⟨pm, bm, rfl, rfl⟩, rfl⟩
  repeat' (first | (refine IsO ?_; first | refine JO_nil ?_ | (refine IsBin ?_; refine B1 rfl rfl rfl rfl ?_) | (refine IsLoad ?_; first | refine L1 rfl rfl rfl rfl ?_ | refine L2 rfl rfl rfl rfl rfl ?_) | (refine IsStore ?_; refine S1 rfl rfl rfl rfl rfl rfl rfl (fun _ => ?_)) | (refine IsBox ?_; refine N1 rfl rfl rfl rfl (fun _ => ?_)) | (refine IsAlloc ?_; refine N2 rfl rfl rfl rfl (fun _ => ?_)) | refine V1 rfl rfl rfl ?_) | (refine IsAt ?_; first | (with_reducible first | refine T1 ?_ | refine T3 ?_ | refine T5 ?_ | refine T6 ?_) | ((with_reducible show At _ (PBlock _ _ (Exit.exit _)) _ _); refine At_block_hit ?_)) | (refine IsJ ?_; first | refine J_seq ?_ | refine J_region ?_ | refine J_block ?_ | refine J_skip ?_ | refine J_ret ?_ | refine J_exit ?_ | (refine IsCond ?_; first | refine J_cond_t rfl ?_ | refine J_cond_f rfl ?_ | refine J_cb rfl (fun _ => ?_) (fun _ => ?_))))
  rename_i b3 b5 b9 _
  refine JO_fact _ (fun w hs => rowz_len (T := 3) (sz := 1) (m := rts.length) (cap := rc) (a := ra) (cs := intsV rts) hs (by simp)) ?_
  rintro ⟨hl, hnn, hcc⟩
  have hRo : Reads (rowz 3 1 ra rts.length rc (intsV rts)) 1 rts.length ra rc (intsV rts) := Reads.rowz hl hnn
  have hld := LeadP.of hB.ht hB.ch hB.ro
  refine JO_l (OL_call [6, 6, 6] rfl rfl rfl (Reach_spec (n : Int) hB.ht hB.ch hld (fun z hz => (hroot z hz).imp id fun ⟨j, o, h1, h2, _⟩ => ⟨j, o, h1, h2⟩) hRo (by omega)) rfl) rfl rfl ?_
  rintro _ _ ⟨_, ⟨out, b, hol, hrch, rfl, rfl⟩, rfl⟩
  repeat' (first | (refine IsO ?_; first | refine JO_nil ?_ | (refine IsBin ?_; refine B1 rfl rfl rfl rfl ?_) | (refine IsLoad ?_; first | refine L1 rfl rfl rfl rfl ?_ | refine L2 rfl rfl rfl rfl rfl ?_) | (refine IsStore ?_; refine S1 rfl rfl rfl rfl rfl rfl rfl (fun _ => ?_)) | (refine IsBox ?_; refine N1 rfl rfl rfl rfl (fun _ => ?_)) | (refine IsAlloc ?_; refine N2 rfl rfl rfl rfl (fun _ => ?_)) | refine V1 rfl rfl rfl ?_) | (refine IsAt ?_; first | (with_reducible first | refine T1 ?_ | refine T3 ?_ | refine T5 ?_ | refine T6 ?_) | ((with_reducible show At _ (PBlock _ _ (Exit.exit _)) _ _); refine At_block_hit ?_)) | (refine IsJ ?_; first | refine J_seq ?_ | refine J_region ?_ | refine J_block ?_ | refine J_skip ?_ | refine J_ret ?_ | refine J_exit ?_ | (refine IsCond ?_; first | refine J_cond_t rfl ?_ | refine J_cond_f rfl ?_ | refine J_cb rfl (fun _ => ?_) (fun _ => ?_))))
  have hM0 : MI n (List.replicate ((n + 63) / 64) 0) := MI.new hB.ht.nb
  refine J_loop (α := Nat × List Nat) (fun x => x.1 ≤ os.length ∧ MI n x.2 ∧ ∀ (j : Nat) (o : RO), os[j]? = some o → (bitB x.2 o.i = true ↔ j < x.1 ∧ out[j]? = some true))
    (fun x => [(5, ptr b5 0), (7, ptr p 0), (8, .slice ra rts.length rc), (9, ptr b9 0), (10, ptr pm 0), (12, sl b os.length), (31, .slice a os.length cap), (32, .int .i64 os.length), (33, .int .i64 x.1)])
    (fun x => marksL pm bm n x.2 ++ (blk b (boolsV out) 4 :: (heapL p bw bs n ws T st ++ (refL a cap os ++ [rowz 3 1 ra rts.length rc (intsV rts), blk b9 [.int .i64 n, .slice a os.length cap] 33, blk b5 [.int .i64 0, .slice none 0 0] 33, R]))))
    (fun x => os.length - x.1) (0, List.replicate ((n + 63) / 64) 0) ⟨Nat.zero_le _, hM0, fun j o _ => by rw [bitB_zero]; simp⟩ (by repeat (first | exact True.intro | refine And.intro rfl ?_)) (fun H hl => hl.pick (is := [4, 4, 0, 3, 3, 3, 0, 0, 0, 0, 1, 0]) rfl) ?_
  rintro ⟨q, ms⟩ ⟨hq, hM, hI⟩
  dsimp only at hq hM hI ⊢
  repeat' (first | (refine IsO ?_; first | refine JO_nil ?_ | (refine IsBin ?_; refine B1 rfl rfl rfl rfl ?_) | (refine IsLoad ?_; first | refine L1 rfl rfl rfl rfl ?_ | refine L2 rfl rfl rfl rfl rfl ?_) | (refine IsStore ?_; refine S1 rfl rfl rfl rfl rfl rfl rfl (fun _ => ?_)) | (refine IsBox ?_; refine N1 rfl rfl rfl rfl (fun _ => ?_)) | (refine IsAlloc ?_; refine N2 rfl rfl rfl rfl (fun _ => ?_)) | refine V1 rfl rfl rfl ?_) | (refine IsAt ?_; first | (with_reducible first | refine T1 ?_ | refine T3 ?_ | refine T5 ?_ | refine T6 ?_) | ((with_reducible show At _ (PBlock _ _ (Exit.exit _)) _ _); refine At_block_hit ?_)) | (refine IsJ ?_; first | refine J_seq ?_ | refine J_region ?_ | refine J_skip ?_ | refine J_ret ?_ | refine J_exit ?_ | (refine IsCond ?_; first | refine J_cond_t rfl ?_ | refine J_cond_f rfl ?_ | refine J_cb rfl (fun _ => ?_) (fun _ => ?_))))
  · rename_i hlt
    refine J_block ?_
    obtain ⟨o, ho⟩ : ∃ o, os[q]? = some o := ⟨os[q]'(by omega), List.getElem?_eq_getElem _⟩
    obtain ⟨bq, hbq⟩ : ∃ bq, out[q]? = some bq := ⟨out[q]'(by omega), List.getElem?_eq_getElem _⟩
    have hot := hB.ch.o_lt ho
    refine J_rowzf (i := 6) rfl ?_
    rintro ⟨hl2, hn2, hc2⟩
    have hR : Reads (objsZ a cap os) 5 os.length a cap (os.flatMap cellsO) := Reads.rowz hl2 hn2
    refine J_fact _ (fun w hs => hR.some (by omega) hs (by simp)) ?_
    rintro ⟨b2, of, rfl⟩
    repeat' (first | (refine IsO ?_; first | refine JO_nil ?_ | (refine IsBin ?_; refine B1 rfl rfl rfl rfl ?_) | (refine IsLoad ?_; first | refine L1 rfl rfl rfl rfl ?_ | refine L2 rfl rfl rfl rfl rfl ?_) | (refine IsStore ?_; refine S1 rfl rfl rfl rfl rfl rfl rfl (fun _ => ?_)) | (refine IsBox ?_; refine N1 rfl rfl rfl rfl (fun _ => ?_)) | (refine IsAlloc ?_; refine N2 rfl rfl rfl rfl (fun _ => ?_)) | refine V1 rfl rfl rfl ?_) | (refine IsAt ?_; first | (with_reducible first | refine T1 ?_ | refine T3 ?_ | refine T5 ?_ | refine T6 ?_) | ((with_reducible show At _ (PBlock _ _ (Exit.exit _)) _ _); refine At_block_hit ?_)) | (refine IsJ ?_; first | refine J_seq ?_ | refine J_region ?_ | refine J_block ?_ | refine J_skip ?_ | refine J_ret ?_ | refine J_exit ?_ | (refine IsCond ?_; first | refine J_cond_t rfl ?_ | refine J_cond_f rfl ?_ | refine J_cb rfl (fun _ => ?_) (fun _ => ?_))))
    refine JO_val (OV_idx (off := of + q * 5) rfl rfl rfl rfl (by omega) (by omega) (by simp)) rfl rfl ?_
    refine JO_q (OQ_readA hR (by simp) rfl rfl rfl (by omega) (objs_take ho)) rfl rfl ?_
    repeat' (first | (refine IsO ?_; first | refine JO_nil ?_ | (refine IsBin ?_; refine B1 rfl rfl rfl rfl ?_) | (refine IsLoad ?_; first | refine L1 rfl rfl rfl rfl ?_ | refine L2 rfl rfl rfl rfl rfl ?_) | (refine IsStore ?_; refine S1 rfl rfl rfl rfl rfl rfl rfl (fun _ => ?_)) | (refine IsBox ?_; refine N1 rfl rfl rfl rfl (fun _ => ?_)) | (refine IsAlloc ?_; refine N2 rfl rfl rfl rfl (fun _ => ?_)) | refine V1 rfl rfl rfl ?_) | (refine IsAt ?_; first | (with_reducible first | refine T1 ?_ | refine T3 ?_ | refine T5 ?_ | refine T6 ?_) | ((with_reducible show At _ (PBlock _ _ (Exit.exit _)) _ _); refine At_block_hit ?_)) | (refine IsJ ?_; first | refine J_seq ?_ | refine J_region ?_ | refine J_block ?_ | refine J_skip ?_ | refine J_ret ?_ | refine J_exit ?_ | (refine IsCond ?_; first | refine J_cond_t rfl ?_ | refine J_cond_f rfl ?_ | refine J_cb rfl (fun _ => ?_) (fun _ => ?_))))
    refine JO_val (OV_idx (off := 0 + q) rfl rfl rfl rfl (by omega) (by omega) (by simp)) rfl rfl ?_
    rw [Nat.zero_add]
    refine JO_q (OQ_load (v := .bool bq) rfl rfl (by repeat (first | exact .head _ | refine .tail _ ?_)) (by simp [hbq])) rfl rfl ?_
    cases bq with
    | true =>
      repeat' (first | (refine IsO ?_; first | refine JO_nil ?_ | (refine IsBin ?_; refine B1 rfl rfl rfl rfl ?_) | (refine IsLoad ?_; first | refine L1 rfl rfl rfl rfl ?_ | refine L2 rfl rfl rfl rfl rfl ?_) | (refine IsStore ?_; refine S1 rfl rfl rfl rfl rfl rfl rfl (fun _ => ?_)) | (refine IsBox ?_; refine N1 rfl rfl rfl rfl (fun _ => ?_)) | (refine IsAlloc ?_; refine N2 rfl rfl rfl rfl (fun _ => ?_)) | refine V1 rfl rfl rfl ?_) | (refine IsAt ?_; first | (with_reducible first | refine T1 ?_ | refine T3 ?_ | refine T5 ?_ | refine T6 ?_) | ((with_reducible show At _ (PBlock _ _ (Exit.exit _)) _ _); refine At_block_hit ?_)) | (refine IsJ ?_; first | refine J_seq ?_ | refine J_region ?_ | refine J_block ?_ | refine J_skip ?_ | refine J_ret ?_ | refine J_exit ?_ | (refine IsCond ?_; first | refine J_cond_t rfl ?_ | refine J_cond_f rfl ?_ | refine J_cb rfl (fun _ => ?_) (fun _ => ?_))))
      refine JO_l (OL_call [1, 1] rfl rfl rfl (Set_in o.i hM (by omega)) rfl) rfl rfl ?_
      rintro _ _ ⟨_, ⟨rfl, rfl⟩, rfl⟩
      repeat' (first | (refine IsO ?_; first | refine JO_nil ?_ | (refine IsBin ?_; refine B1 rfl rfl rfl rfl ?_) | (refine IsLoad ?_; first | refine L1 rfl rfl rfl rfl ?_ | refine L2 rfl rfl rfl rfl rfl ?_) | (refine IsStore ?_; refine S1 rfl rfl rfl rfl rfl rfl rfl (fun _ => ?_)) | (refine IsBox ?_; refine N1 rfl rfl rfl rfl (fun _ => ?_)) | (refine IsAlloc ?_; refine N2 rfl rfl rfl rfl (fun _ => ?_)) | refine V1 rfl rfl rfl ?_) | (refine IsAt ?_; first | (with_reducible first | refine T1 ?_ | refine T3 ?_ | refine T5 ?_ | refine T6 ?_) | ((with_reducible show At _ (PBlock _ _ (Exit.exit _)) _ _); refine At_block_hit ?_)) | (refine IsJ ?_; first | refine J_seq ?_ | refine J_region ?_ | refine J_block ?_ | refine J_skip ?_ | refine J_ret ?_ | refine J_exit ?_ | (refine IsCond ?_; first | refine J_cond_t rfl ?_ | refine J_cond_f rfl ?_ | refine J_cb rfl (fun _ => ?_) (fun _ => ?_))))
      refine At_round (q + 1, setM ms o.i) (by show os.length - (q + 1) < os.length - q; omega) ⟨by show q + 1 ≤ os.length; omega, hM.set (by omega), fun j o2 hj => ?_⟩ (by repeat (first | exact True.intro | refine And.intro rfl ?_)) (fun H hl => ?_)
      · dsimp only
        rw [bitB_set hM (by omega), Bool.or_eq_true, decide_eq_true_iff, hI j o2 hj]
        constructor
        · rintro (⟨h1, h2⟩ | h1)
          · exact ⟨by omega, h2⟩
          · have := Ch.one hB.ch hj ho h1
            subst this
            exact ⟨by omega, hbq⟩
        · rintro ⟨h1, h2⟩
          by_cases e : j = q
          · subst e
            rw [ho] at hj; injection hj with hj; right; rw [hj]
          · exact .inl ⟨by omega, h2⟩
      · exact hl.pick (is := [0, 0, 1, 1, 1, 1, 1, 1, 1, 1, 1, 1]) rfl
    | false =>
      repeat' (first | (refine IsO ?_; first | refine JO_nil ?_ | (refine IsBin ?_; refine B1 rfl rfl rfl rfl ?_) | (refine IsLoad ?_; first | refine L1 rfl rfl rfl rfl ?_ | refine L2 rfl rfl rfl rfl rfl ?_) | (refine IsStore ?_; refine S1 rfl rfl rfl rfl rfl rfl rfl (fun _ => ?_)) | (refine IsBox ?_; refine N1 rfl rfl rfl rfl (fun _ => ?_)) | (refine IsAlloc ?_; refine N2 rfl rfl rfl rfl (fun _ => ?_)) | refine V1 rfl rfl rfl ?_) | (refine IsAt ?_; first | (with_reducible first | refine T1 ?_ | refine T3 ?_ | refine T5 ?_ | refine T6 ?_) | ((with_reducible show At _ (PBlock _ _ (Exit.exit _)) _ _); refine At_block_hit ?_)) | (refine IsJ ?_; first | refine J_seq ?_ | refine J_region ?_ | refine J_block ?_ | refine J_skip ?_ | refine J_ret ?_ | refine J_exit ?_ | (refine IsCond ?_; first | refine J_cond_t rfl ?_ | refine J_cond_f rfl ?_ | refine J_cb rfl (fun _ => ?_) (fun _ => ?_))))
      refine At_round (q + 1, ms) (by show os.length - (q + 1) < os.length - q; omega) ⟨by show q + 1 ≤ os.length; omega, hM, fun j o2 hj => ?_⟩ (by repeat (first | exact True.intro | refine And.intro rfl ?_)) (fun H hl => ?_)
      · rw [hI j o2 hj]
        constructor
        · exact fun ⟨h1, h2⟩ => ⟨by show j < q + 1; omega, h2⟩
        · rintro ⟨h1, h2⟩
          refine ⟨?_, h2⟩
          by_cases e : j = q
          · subst e; rw [hbq] at h2; simp at h2
          · have h1 : j < q + 1 := h1
            omega
      · exact hl.tail
  · have hqe : q = os.length := by omega
    subst hqe
    have hRM : RMk os rts ms := fun j o hj => by
      rw [← hrch j]
      unfold lvB
      rw [Bool.and_eq_true, decide_eq_true_iff, hI j o hj]
      have hjl := (List.getElem?_eq_some_iff.1 hj).1
      exact ⟨fun ⟨_, _, h3⟩ => h3, fun h3 => ⟨rch_live hB.ht hB.ch hB.ro hroot ((hrch j).1 h3) hj, hjl, h3⟩⟩
    have hbo : boolsV out = stB ms os := by
      apply List.ext_getElem?
      intro j
      rw [List.getElem?_map, List.getElem?_map]
      cases hj : os[j]? with
      | none =>
        rw [List.getElem?_eq_none_iff] at hj
        rw [List.getElem?_eq_none (by omega)]; rfl
      | some o =>
        have hjl := (List.getElem?_eq_some_iff.1 hj).1
        rw [List.getElem?_eq_getElem (by omega)]
        show some (Value.bool _) = some (Value.bool (lvB ms o))
        congr 2
        have h1 := hRM j o hj
        rw [← hrch j, List.getElem?_eq_getElem (by omega)] at h1
        have h2 : (lvB ms o = true ↔ out[j]'(by omega) = true) := h1.trans ⟨fun e => by injection e, fun e => by rw [e]⟩
        exact (Bool.eq_iff_iff.2 h2).symm
    rw [hbo]
    repeat' (first | (refine IsO ?_; first | refine JO_nil ?_ | (refine IsBin ?_; refine B1 rfl rfl rfl rfl ?_) | (refine IsLoad ?_; first | refine L1 rfl rfl rfl rfl ?_ | refine L2 rfl rfl rfl rfl rfl ?_) | (refine IsStore ?_; refine S1 rfl rfl rfl rfl rfl rfl rfl (fun _ => ?_)) | (refine IsBox ?_; refine N1 rfl rfl rfl rfl (fun _ => ?_)) | (refine IsAlloc ?_; refine N2 rfl rfl rfl rfl (fun _ => ?_)) | refine V1 rfl rfl rfl ?_) | (refine IsAt ?_; first | (with_reducible first | refine T1 ?_ | refine T3 ?_ | refine T5 ?_ | refine T6 ?_) | ((with_reducible show At _ (PBlock _ _ (Exit.exit _)) _ _); refine At_block_hit ?_)) | (refine IsJ ?_; first | refine J_seq ?_ | refine J_region ?_ | refine J_block ?_ | refine J_skip ?_ | refine J_ret ?_ | refine J_exit ?_ | (refine IsCond ?_; first | refine J_cond_t rfl ?_ | refine J_cond_f rfl ?_ | refine J_cb rfl (fun _ => ?_) (fun _ => ?_))))
    refine J_draw [0, 0, 0, 1, 0, 0, 0, 0, 2, 0] (List.range 10) (by kernel_rfl) (by kernel_rfl) ?_
    repeat' (refine IsX ?_; first | (refine JX_nil ?_; refine At_np ?_) | (refine JX_op rfl ?_; refine XsO ?_; first | (refine XsLoad ?_; refine XL2 rfl rfl rfl rfl rfl rfl ?_) | refine XV1 rfl rfl rfl rfl ?_))
    refine JX_l0 rfl rfl (OL_store (i := 10) rfl rfl rfl rfl rfl rfl rfl (by rfl)) rfl ?_
    rintro _ _ rfl
    repeat' (refine IsX ?_; first | (refine JX_nil ?_; refine At_np ?_) | (refine JX_op rfl ?_; refine XsO ?_; first | (refine XsLoad ?_; refine XL2 rfl rfl rfl rfl rfl rfl ?_) | refine XV1 rfl rfl rfl rfl ?_))
    repeat' (first | (refine IsO ?_; first | refine JO_nil ?_ | (refine IsBin ?_; refine B1 rfl rfl rfl rfl ?_) | (refine IsLoad ?_; first | refine L1 rfl rfl rfl rfl ?_ | refine L2 rfl rfl rfl rfl rfl ?_) | (refine IsStore ?_; refine S1 rfl rfl rfl rfl rfl rfl rfl (fun _ => ?_)) | (refine IsBox ?_; refine N1 rfl rfl rfl rfl (fun _ => ?_)) | (refine IsAlloc ?_; refine N2 rfl rfl rfl rfl (fun _ => ?_)) | refine V1 rfl rfl rfl ?_) | (refine IsAt ?_; first | (with_reducible first | refine T1 ?_ | refine T3 ?_ | refine T5 ?_ | refine T6 ?_) | ((with_reducible show At _ (PBlock _ _ (Exit.exit _)) _ _); refine At_block_hit ?_)) | (refine IsJ ?_; first | refine J_seq ?_ | refine J_region ?_ | refine J_block ?_ | refine J_skip ?_ | refine J_ret ?_ | refine J_exit ?_ | (refine IsCond ?_; first | refine J_cond_t rfl ?_ | refine J_cond_f rfl ?_ | refine J_cb rfl (fun _ => ?_) (fun _ => ?_))))
    exact At_ret rfl rfl (.tmp rfl (.tmp rfl (.tmp rfl (.agg rfl rfl rfl (by repeat (first | exact .head _ | refine .tail _ ?_)) (by rfl) (.tmp rfl .nil))))) rfl (is := [4, 4, 4, 1, 1, 2, 2, 2, 1, 2]) rfl ⟨p, bw, bs, n, T, ws, st, a, cap, os, ra, rc, pm, bm, ms, b, rts, hB, by omega, hM, rfl, hRM, hroot, rfl, rfl⟩
end Go.Proofs.Ytahfnbpbdnmggaa
/-
  Our own: besomlaw14.awake.
-/
set_option linter.unusedVariables false
set_option linter.unusedSimpArgs false
namespace Go.Proofs.Ytahfnbpbdnmggaa
open Go.Sep
set_option maxHeartbeats 4000000 in
theorem awake14_spec : Does Try.prog 7 [] [] (fun v l => v = .bool true ∧ l = []) := by
  refine Does.of tiok Try.func7 (by kernel_rfl) rfl Try.ntmps7 rfl ?_
  intro W fr
  have hN : Does Try.prog 30 [.int .i64 3] [] _ := heapNew_ok 3 (by decide) (by decide)
  have hK : Does Try.prog 10 [.int .i64 3] [] _ := marksNew 3 (by decide) (by decide)
  repeat' (first | (refine IsO ?_; first | refine JO_nil ?_ | (refine IsMove ?_; first | refine M1 rfl rfl rfl ?_ | refine M4 rfl rfl rfl ?_) | (refine IsBin ?_; first | refine B9 rfl rfl rfl rfl rfl rfl rfl ?_ | refine BA rfl rfl rfl rfl rfl rfl rfl ?_) | refine V1 rfl rfl rfl ?_) | (refine IsAt ?_; (with_reducible refine T1 ?_)) | (refine IsJ ?_; first | refine J_seq ?_ | refine J_region ?_ | refine J_skip ?_ | refine J_ret ?_ | (refine IsCond ?_; refine J_cond_f rfl ?_)))
  refine JO_l (OL_call [] rfl rfl rfl (hN) rfl) rfl rfl ?_; rintro _ _ ⟨_, ⟨p, bw, bs, rfl, rfl⟩, rfl⟩
  repeat' (first | (refine IsO ?_; first | refine JO_nil ?_ | (refine IsMove ?_; first | refine M1 rfl rfl rfl ?_ | refine M4 rfl rfl rfl ?_) | (refine IsBin ?_; first | refine B9 rfl rfl rfl rfl rfl rfl rfl ?_ | refine BA rfl rfl rfl rfl rfl rfl rfl ?_) | refine V1 rfl rfl rfl ?_) | (refine IsAt ?_; (with_reducible refine T1 ?_)) | (refine IsJ ?_; first | refine J_seq ?_ | refine J_region ?_ | refine J_skip ?_ | refine J_ret ?_ | (refine IsCond ?_; refine J_cond_f rfl ?_)))
  refine JO_l (OL_call [] rfl rfl rfl (hK) rfl) rfl rfl ?_; rintro _ _ ⟨_, ⟨pm, bm, rfl, rfl⟩, rfl⟩
  repeat' (first | (refine IsO ?_; first | refine JO_nil ?_ | (refine IsMove ?_; first | refine M1 rfl rfl rfl ?_ | refine M4 rfl rfl rfl ?_) | (refine IsBin ?_; first | refine B9 rfl rfl rfl rfl rfl rfl rfl ?_ | refine BA rfl rfl rfl rfl rfl rfl rfl ?_) | refine V1 rfl rfl rfl ?_) | (refine IsAt ?_; (with_reducible refine T1 ?_)) | (refine IsJ ?_; first | refine J_seq ?_ | refine J_region ?_ | refine J_skip ?_ | refine J_ret ?_ | (refine IsCond ?_; refine J_cond_f rfl ?_)))
  have hS : Does Try.prog 13 [ptr p 0, ptr pm 0, .int .i64 2, .int .i64 1] (heapL p bw bs 3 (List.replicate 3 0) 0 (List.replicate 3 false) ++ marksL pm bm 3 (List.replicate ((3 + 63) / 64) 0)) _ :=
    SliderNew_ok (n := 3) (T := 0) (os := []) 2 1 (by decide) (by unfold In64; decide) (HT.new (by decide)) rfl (MI.new (by decide)) (fun j o hj => by cases hj) (fun j o hj => by cases hj) (by decide)
  refine JO_l (OL_call [2, 2, 2, 0, 0] rfl rfl rfl hS rfl) rfl rfl ?_
  rintro _ _ ⟨_, ⟨ps, pf, w, nR, bst, bf, pw, bw2, pz, bz, rs, fs, wa, wc, xs, hw, hF, hnR, hxl, hxs, rfl, rfl⟩, rfl⟩
  have hn0 : nR = 0 := by
    rw [hnR]
    unfold numR
    exact Nat.div_eq_of_lt (by omega)
  clear hF hnR hxs
  subst hn0
  have hO : OverP (List.replicate (3 + 0) 0) 0 ((((0 : Nat) : Int) - ((szL (lvs (List.replicate ((3 + 63) / 64) 0) []) : Nat) : Int) + 16 - 1) / 16) := ⟨fun k y hk => absurd hk (Nat.not_lt_zero _), rfl⟩
  repeat' (first | (refine IsO ?_; first | refine JO_nil ?_ | (refine IsMove ?_; first | refine M1 rfl rfl rfl ?_ | refine M4 rfl rfl rfl ?_) | (refine IsBin ?_; first | refine B9 rfl rfl rfl rfl rfl rfl rfl ?_ | refine BA rfl rfl rfl rfl rfl rfl rfl ?_) | refine V1 rfl rfl rfl ?_) | (refine IsAt ?_; (with_reducible refine T1 ?_)) | (refine IsJ ?_; first | refine J_seq ?_ | refine J_region ?_ | refine J_skip ?_ | refine J_ret ?_ | (refine IsCond ?_; refine J_cond_f rfl ?_)))
  refine JO_l (OL_call [0, 0, 0, 0, 0, 0, 0, 0, 0, 0, 0, 0, 0, 0] rfl rfl rfl (Over_spec rfl (by decide)) rfl) rfl rfl ?_
  rintro _ _ ⟨_, ⟨t, ht, rfl, rfl⟩, rfl⟩
  obtain rfl : t = true := ht.2 hO
  clear ht
  repeat' (first | (refine IsO ?_; first | refine JO_nil ?_ | (refine IsMove ?_; first | refine M1 rfl rfl rfl ?_ | refine M4 rfl rfl rfl ?_) | (refine IsBin ?_; first | refine B9 rfl rfl rfl rfl rfl rfl rfl ?_ | refine BA rfl rfl rfl rfl rfl rfl rfl ?_) | refine V1 rfl rfl rfl ?_) | (refine IsAt ?_; (with_reducible refine T1 ?_)) | (refine IsJ ?_; first | refine J_seq ?_ | refine J_region ?_ | refine J_skip ?_ | refine J_ret ?_ | (refine IsCond ?_; refine J_cond_f rfl ?_)))
  have hE := SlStep_end (ps := ps) (pf := pf) (p := p) (bw := bw) (bs := bs) (pm := pm) (bm := bm) (bst := bst) (bf := bf) (n := 3) (T := 0) (w := w) (nR := 0) (pw := pw) (bw2 := bw2) (pz := pz) (bz := bz) (ws := List.replicate 3 0) (st := List.replicate 3 false) (ms := List.replicate ((3 + 63) / 64) 0) (rs := rs) (fs := fs) (wds := List.replicate 3 0) (wa := wa) (wc := wc) (xs := xs) (mv := 0) (tv := 0) (who := 0) ⟨by decide, by omega⟩ rfl (by decide) hO
  refine JO_l (OL_call [0, 0, 0, 0, 0, 0, 0, 0, 0, 0, 0, 0, 0, 0] rfl rfl rfl hE rfl) rfl rfl ?_
  rintro _ _ ⟨_, ⟨rfl, rfl⟩, rfl⟩
  repeat' (first | (refine IsO ?_; first | refine JO_nil ?_ | (refine IsMove ?_; first | refine M1 rfl rfl rfl ?_ | refine M4 rfl rfl rfl ?_) | (refine IsBin ?_; first | refine B9 rfl rfl rfl rfl rfl rfl rfl ?_ | refine BA rfl rfl rfl rfl rfl rfl rfl ?_) | refine V1 rfl rfl rfl ?_) | (refine IsAt ?_; (with_reducible refine T1 ?_)) | (refine IsJ ?_; first | refine J_seq ?_ | refine J_region ?_ | refine J_skip ?_ | refine J_ret ?_ | (refine IsCond ?_; refine J_cond_f rfl ?_)))
  exact At_ret1 rfl rfl rfl (is := []) rfl ⟨rfl, rfl⟩
end Go.Proofs.Ytahfnbpbdnmggaa
