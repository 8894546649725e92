/-
  Our own: what the claims of Zv share, 5 of 6: Swe Swf Sgb Sgc Oft Sia Srf Sif My Mzd Mze Mzf Mzg Mzh Mzi Mzj Mzk Mzl Mzm Mzn Sig Sih Pha Phb Phc Phd Swh Ta Tb Tc Al Am Jt Te Tf Td.
-/
import Derived.Test.YtfmkjbmogfhpbaaGreatDoorZv4
import Derived.RangeFuncStops
import Derived.RangeFuncLeaves
import Derived.LoopNIn
import Derived.Laws.StructEq
import Derived.Tactics
import Derived.Laws.Slices
import Derived.Deep.Quiet
import Derived.IntWalk
import Derived.Shelf.Abstract
import Derived.Laws.Entries
import Derived.Laws.Rows
import Derived.Below
import Derived.TacticsIn
import Derived.OrdersIn
import Derived.KernelRfl
import Derived.Test.YtfmkjbmogfhpbaaGreatDoorProg
import Derived.ChangeArms
import Derived.WalkKit
import Derived.ProofKit
import Derived.OpenShut
import Derived.ChangeOld
import Derived.SizedLaws
import Derived.Carry
import Derived.Lib.SmallJoins
import Derived.Laws.Shifts
import Derived.Laws.Bits64b
import Derived.Shelf.Bits.Mul64
import Derived.Maps.Range
import Derived.Maps.Views
set_option linter.unusedVariables false
set_option linter.unusedSimpArgs false
namespace Go.Proofs.YtfmkjbmogfhpbaaGreatDoor
open Go.Sep
section raw
variable {ps pf p bw bs pm bm bst bf n T w nR pw bw2 pz nW wc : Nat} {wa : Option Addr} {pv mv tv : Int} {ws : List Int} {st : List Bool} {os : List RO} {ms : List Nat} {rs : List RG} {fs wds : List Int}
  {c : Nat} {who : Int} {fn : FuncId} {region : Int} {wv ov : Value} {from_ to size refs at_ word end_ : Int}
set_option maxHeartbeats 8000000 in
theorem Fetch_spec (fi ai : Nat) {v : Int} (h1 : 0 ≤ who) (h2 : who < 64) (hv : wds[fi + ai]? = some v) (hs : wds.length ≤ 65536) (ht : In64 (tv + 1)) :
    Does Tryz.prog 185 [ptr c 0] [wkR ps c who fn region wv ov fi to size refs ai word end_, sdB ps pf p pw pz wa nW wc pv mv tv, cellsZ pw bw2 wds]
    (fun u l => u = .tuple #[] ∧ l = [wkR ps c who 195 region wv ov fi to size refs ai v end_, sdB ps pf p pw pz wa nW wc pv mv (tv + 1), cellsZ pw bw2 wds]) := by
  obtain ⟨t1, t2⟩ := ht
  have hfa := (List.getElem?_eq_some_iff.1 hv).1
  refine Does.of tiok Tryz.func185 (by kernel_rfl) rfl Tryz.ntmps185 rfl ?_
  intro W fr
  repeat' (first | refine Wka ?_ | intro _ | apply And.intro)
  refine J_draw [0, 0, 0, 0, 1, 0, 0, 1, 0, 0, 0, 1, 0, 0, 0, 1, 0, 0, 0, 1, 0, 2, 0, 0, 0, 0, 0, 2] (List.range 28) (by kernel_rfl) (by kernel_rfl) ?_
  repeat' (first | refine Wkd ?_ | intro _ | apply And.intro)
  rw [show (fi : Int) + (ai : Int) = ((fi + ai : Nat) : Int) by omega]
  refine JX_l rfl rfl (OL_call [2] rfl rfl rfl (Load_z (p := pw) (bw := bw2) who v (fi + ai) h1 h2 hv hs) rfl) rfl rfl ?_
  rintro _ _ ⟨_, ⟨rfl, rfl⟩, rfl⟩
  repeat' (first | refine Wkd ?_ | intro _ | apply And.intro)
  repeat' (first | refine Wka ?_ | intro _ | apply And.intro)
  exact At_end rfl rfl .nil rfl (is := [0, 0, 0]) rfl ⟨rfl, rfl⟩
set_option maxHeartbeats 16000000 in
theorem Lay_spec (qi ai : Nat) (z : Int) (h1 : 0 ≤ who) (h2 : who < 64) (hz : (0 < ai ∧ (ai : Int) ≤ refs ∧ ∃ e : Int, Does Tryz.prog 80 [ptr pf 0, .int .i64 word] (fwdL pf p bw bs pm bm bst bf n T w nR ws st ms rs fs) (fun v l => v = .tuple #[.int .i64 z, .int .i64 e] ∧ l = fwdL pf p bw bs pm bm bst bf n T w nR ws st ms rs fs)) ∨ (¬ (0 < ai ∧ (ai : Int) ≤ refs) ∧ z = word))
    (hp : qi + ai < wds.length) (hs : wds.length ≤ 65536) (ht : In64 (tv + 1)) (hm : In64 (mv + 1)) :
    Does Tryz.prog 195 [ptr c 0] (wkR ps c who fn region wv ov from_ qi size refs ai word end_ :: sdB ps pf p pw pz wa nW wc pv mv tv :: cellsZ pw bw2 wds :: fwdL pf p bw bs pm bm bst bf n T w nR ws st ms rs fs)
    (fun u l => u = .tuple #[] ∧ l = wkR ps c who (if (ai : Int) + 1 = size then 168 else 185) region wv ov from_ qi size refs ((ai : Int) + 1) z end_ :: sdB ps pf p pw pz wa nW wc pv (if (ai : Int) + 1 = size then mv + 1 else mv) (tv + 1) :: cellsZ pw bw2 (wds.set (qi + ai) z) :: fwdL pf p bw bs pm bm bst bf n T w nR ws st ms rs fs) := by
  obtain ⟨t1, t2⟩ := ht
  obtain ⟨m1, m2⟩ := hm
  refine Does.of tiok Tryz.func195 (by kernel_rfl) rfl Tryz.ntmps195 rfl ?_
  intro W fr
  apply J_tail (α := Unit) (fun _ => True) (fun _ => [(0, ptr c 0)]) (fun _ => wkR ps c who fn region wv ov from_ qi size refs ai z end_ :: sdB ps pf p pw pz wa nW wc pv mv tv :: cellsZ pw bw2 wds :: fwdL pf p bw bs pm bm bst bf n T w nR ws st ms rs fs)
  · intro hT
    repeat' (first | refine Wka ?_ | intro _ | apply And.intro)
    refine J_draw [0, 0, 0, 1, 0, 0, 0, 0, 0, 1, 0, 0, 0, 1, 0, 0] (List.range 16) (by kernel_rfl) (by kernel_rfl) ?_
    have hz2 := hz
    rcases hz2 with ⟨ha, hr, e, hW⟩ | ⟨hno, hzw⟩
    · repeat' (first | refine Wkd ?_ | intro _ | apply And.intro)
      repeat' (first | refine Wka ?_ | intro _ | apply And.intro)
      refine J_draw [0, 0, 0, 0, 1, 0, 0, 1, 0, 0, 0, 1, 2, 0, 0, 0, 0, 0, 2] (List.range 19) (by kernel_rfl) (by kernel_rfl) ?_
      repeat' (first | refine Wkd ?_ | intro _ | apply And.intro)
      refine JX_l rfl rfl (OL_call [3, 3, 3, 3, 3, 3, 3, 3, 3] rfl rfl rfl hW rfl) rfl rfl ?_
      rintro _ _ ⟨_, ⟨rfl, rfl⟩, rfl⟩
      repeat' (first | refine Wkd ?_ | intro _ | apply And.intro)
      refine JX_l0 rfl rfl (OL_store rfl rfl rfl rfl rfl rfl (i := 9) rfl (by rfl)) rfl ?_
      rintro _ _ rfl
      repeat' (first | refine Wkd ?_ | intro _ | apply And.intro)
      refine At_then_normal ?_
      exact J_regs Sgt (J_hp (fun H hl => hl.pick (is := [0, 9, 9, 0, 0, 0, 0, 0, 0, 0, 0, 0]) rfl) (hT () trivial))
    · by_cases ha : 0 < ai
      · repeat' (first | refine Wkd ?_ | intro _ | apply And.intro)
        repeat' ((fail_if_success (with_reducible show J _ (Code.seq (Code.region 2 _ _) _) _ _ _)); first | refine Wka ?_ | intro _ | apply And.intro)
        exact J_regs Sgt (J_hp (fun H hl => by rw [hzw]; exact hl) (hT () trivial))
      · repeat' (first | refine Wkd ?_ | intro _ | apply And.intro)
        repeat' ((fail_if_success (with_reducible show J _ (Code.seq (Code.region 2 _ _) _) _ _ _)); first | refine Wka ?_ | intro _ | apply And.intro)
        exact J_regs Sgt (J_hp (fun H hl => by rw [hzw]; exact hl) (hT () trivial))
  rintro _ _
  repeat' (first | refine Wka ?_ | intro _ | apply And.intro)
  refine J_draw [0, 0, 0, 1, 0, 0, 1, 0, 0, 0, 1, 0, 0, 0, 1, 0, 0, 0, 1, 0, 0, 0, 0, 1, 2] (List.range 25) (by kernel_rfl) (by kernel_rfl) ?_
  repeat' (first | refine Wkd ?_ | intro _ | apply And.intro)
  rw [show (qi : Int) + (ai : Int) = ((qi + ai : Nat) : Int) by omega]
  refine JX_l rfl rfl (OL_call [2] rfl rfl rfl (Store_z (p := pw) (bw := bw2) (ws := wds) who z (qi + ai) h1 h2 hp hs) rfl) rfl rfl ?_
  rintro _ _ ⟨_, ⟨rfl, rfl⟩, rfl⟩
  repeat' (first | refine Wkd ?_ | intro _ | apply And.intro)
  repeat' (first | refine Wka ?_ | intro _ | apply And.intro)
  refine J_draw [0, 0, 0, 1, 0, 0, 0, 1, 0] (List.range 9) (by kernel_rfl) (by kernel_rfl) ?_
  repeat' (first | refine Wkd ?_ | intro _ | apply And.intro)
  by_cases hsz : (ai : Int) + 1 = size
  · repeat' (first | refine Wka ?_ | intro _ | apply And.intro)
    refine At_end rfl rfl .nil rfl (is := [0, 0, 0, 0, 0, 0, 0, 0, 0, 0, 0, 0]) rfl ⟨rfl, ?_⟩
    rw [if_pos hsz, if_pos hsz]
    rfl
  · repeat' (first | refine Wka ?_ | intro _ | apply And.intro)
    refine At_end rfl rfl .nil rfl (is := [0, 0, 0, 0, 0, 0, 0, 0, 0, 0, 0, 0]) rfl ⟨rfl, ?_⟩
    rw [if_neg hsz, if_neg hsz]
    rfl
end raw
open Go.Sep
section raw
variable {ps pf p bw bs pm bm bst bf n T w nR pw bw2 pz bz nW wc : Nat} {wa : Option Addr} {pv mv tv : Int} {ws : List Int} {st : List Bool} {os : List RO} {ms : List Nat} {rs : List RG} {fs wds sts : List Int}
  {c : Nat} {who : Int} {fn : FuncId} {region : Int} {wv ov : Value} {from_ to size refs at_ word end_ : Int}
theorem Rest_spec : Does Tryz.prog 186 [ptr c 0] [] (fun u l => u = .tuple #[] ∧ l = []) := by
  refine Does.of tiok Tryz.func186 (by kernel_rfl) rfl Tryz.ntmps186 rfl ?_
  intro W fr
  repeat' (first | refine Wka ?_ | intro _ | apply And.intro)
  exact At_end rfl rfl .nil rfl (is := []) rfl ⟨rfl, rfl⟩
set_option maxHeartbeats 8000000 in
theorem All_end (h1 : at_ = nR) :
    Does Tryz.prog 151 [ptr c 0] [wkR ps c who fn region wv ov from_ to size refs at_ word end_, sdB ps pf p pw pz wa nW wc pv mv tv, blk pf (fwdV p pm w bst bf nR) 219]
    (fun u l => u = .tuple #[] ∧ l = [wkR ps c who 170 region wv ov from_ to size refs at_ word end_, sdB ps pf p pw pz wa nW wc pv mv tv, blk pf (fwdV p pm w bst bf nR) 219]) := by
  refine Does.of tiok Tryz.func151 (by kernel_rfl) rfl Tryz.ntmps151 rfl ?_
  intro W fr
  repeat' (first | refine Wka ?_ | intro _ | apply And.intro)
  refine J_drawk [wkR ps c who fn region wv ov from_ to size refs at_ word end_, sdB ps pf p pw pz wa nW wc pv mv tv, blk pf (fwdV p pm w bst bf nR) 219] (fun H hl => hl) [0, 0, 0, 5, 0, 0, 0, 5, 0, 0, 5, 0, 0, 5, 2, 0] (List.range 16) (by kernel_rfl) (by kernel_rfl) ?_
  repeat' (first | refine Wkd ?_ | intro _ | apply And.intro)
  refine JX_lk rfl rfl (OL_call [] rfl rfl rfl (RegLen_spec (w := w) (bst := bst) (bf := bf) (nR := nR)) rfl) rfl rfl ?_ ?_
  · rintro _ _ ⟨_, ⟨rfl, rfl⟩, rfl⟩ H hl
    exact hl
  rintro _ _ ⟨_, ⟨rfl, rfl⟩, rfl⟩ _
  repeat' (first | refine Wkd ?_ | intro _ | apply And.intro)
  repeat' (first | refine Wka ?_ | intro _ | apply And.intro)
  exact At_ret rfl rfl .nil rfl (is := [0, 0, 0]) rfl ⟨rfl, rfl⟩
set_option maxHeartbeats 8000000 in
theorem All_look (ai : Nat) {y : Int} (h1 : 0 ≤ who) (h2 : who < 64) (ha : ai < nR) (hn : nR ≤ 65536) (hy : sts[3 + ai]? = some y) (hs : sts.length ≤ 65536) (ht : In64 (tv + 1)) :
    Does Tryz.prog 151 [ptr c 0] [wkR ps c who fn region wv ov from_ to size refs ai word end_, sdB ps pf p pw pz wa nW wc pv mv tv, blk pf (fwdV p pm w bst bf nR) 219, cellsZ pz bz sts]
    (fun u l => u = .tuple #[] ∧ l = [wkR ps c who fn region wv ov from_ to size refs (if 0 < y then (ai : Int) + 1 else ai) word end_, sdB ps pf p pw pz wa nW wc pv mv (tv + 1), blk pf (fwdV p pm w bst bf nR) 219, cellsZ pz bz sts]) := by
  refine Does.of tiok Tryz.func151 (by kernel_rfl) rfl Tryz.ntmps151 rfl ?_
  intro W fr
  repeat' (first | refine Wka ?_ | intro _ | apply And.intro)
  refine J_drawk [wkR ps c who fn region wv ov from_ to size refs ai word end_, sdB ps pf p pw pz wa nW wc pv mv tv, blk pf (fwdV p pm w bst bf nR) 219] (fun H hl => hl.pick (is := [0, 0, 0]) rfl) [0, 0, 0, 5, 0, 0, 0, 5, 0, 0, 5, 0, 0, 5, 2, 0] (List.range 16) (by kernel_rfl) (by kernel_rfl) ?_
  repeat' (first | refine Wkd ?_ | intro _ | apply And.intro)
  refine JX_lk rfl rfl (OL_call [] rfl rfl rfl (RegLen_spec (w := w) (bst := bst) (bf := bf) (nR := nR)) rfl) rfl rfl ?_ ?_
  · rintro _ _ ⟨_, ⟨rfl, rfl⟩, rfl⟩ H hl
    exact hl.pick (is := [0, 0, 0]) rfl
  rintro _ _ ⟨_, ⟨rfl, rfl⟩, rfl⟩ _
  repeat' (first | refine Wkd ?_ | intro _ | apply And.intro)
  repeat' (first | refine Wka ?_ | intro _ | apply And.intro)
  rw [show (3 : Int) + (ai : Int) = ((3 + ai : Nat) : Int) by omega]
  refine JO_l (OL_call [0, 0, 1] rfl rfl rfl (wLoad (bz := bz) (3 + ai) h1 h2 hy hs ht) rfl) rfl rfl ?_
  rintro _ _ ⟨_, ⟨rfl, rfl⟩, rfl⟩
  by_cases hy0 : 0 < y
  · repeat' (first | refine Wka ?_ | intro _ | apply And.intro)
    refine At_end rfl rfl .nil rfl (is := [0, 0, 1, 0]) rfl ⟨rfl, ?_⟩
    rw [if_pos hy0]
  · repeat' (first | refine Wka ?_ | intro _ | apply And.intro)
    refine At_end rfl rfl .nil rfl (is := [0, 0, 1, 0]) rfl ⟨rfl, ?_⟩
    rw [if_neg hy0]
set_option maxHeartbeats 8000000 in
theorem Part_none (D : Nat) (h1 : 0 ≤ who) (h2 : who < 64) (hD : sts[1]? = some (D : Int)) (hD2 : D ≤ 1000000000) (hDP : pv ≤ D) (hs : sts.length ≤ 65536) (ht : In64 (tv + 1)) :
    Does Tryz.prog 170 [ptr c 0] [wkR ps c who fn region wv ov from_ to size refs at_ word end_, sdB ps pf p pw pz wa nW wc pv mv tv, cellsZ pz bz sts]
    (fun u l => u = .tuple #[] ∧ l = [wkR ps c who 186 region wv ov from_ to size refs at_ word end_, sdB ps pf p pw pz wa nW wc pv mv (tv + 1), cellsZ pz bz (sts.set 1 (D + 1))]) := by
  refine Does.of tiok Tryz.func170 (by kernel_rfl) rfl Tryz.ntmps170 rfl ?_
  intro W fr
  repeat' (first | refine Wka ?_ | intro _ | apply And.intro)
  refine JO_l (OL_call [0, 0, 0] rfl rfl rfl (wAdd (bz := bz) 1 h1 h2 hD hs (by constructor <;> omega) ht) rfl) rfl rfl ?_
  rintro _ _ ⟨_, ⟨rfl, rfl⟩, rfl⟩
  repeat' (first | refine Wka ?_ | intro _ | apply And.intro)
  exact At_end rfl rfl .nil rfl (is := [0, 0, 0]) rfl ⟨rfl, rfl⟩
set_option maxHeartbeats 16000000 in
theorem Part_next (D S : Nat) (hF : RF w nR (lvs ms os) rs fs) (hS : S = szL (lvs ms os)) (h1 : 0 ≤ who) (h2 : who < 64) (hD : sts[1]? = some (D : Int)) (hD2 : D ≤ 65536) (hS2 : S ≤ 65536) (hT : T ≤ 65536) (hDP : (D : Int) < pv) (hs : sts.length ≤ 65536) (ht : In64 (tv + 1)) :
    Does Tryz.prog 170 [ptr c 0] (wkR ps c who fn region wv ov from_ to size refs at_ word end_ :: sdB ps pf p pw pz wa nW wc pv mv tv :: cellsZ pz bz sts :: fwdL pf p bw bs pm bm bst bf n T w nR ws st ms rs fs)
    (fun u l => u = .tuple #[] ∧ l = wkR ps c who 187 region wv ov from_ to size refs (S + D * 16 : Nat) word (min (S + D * 16 + 16) T : Nat) :: sdB ps pf p pw pz wa nW wc pv mv (tv + 1) :: cellsZ pz bz (sts.set 1 (D + 1)) :: fwdL pf p bw bs pm bm bst bf n T w nR ws st ms rs fs) := by
  refine Does.of tiok Tryz.func170 (by kernel_rfl) rfl Tryz.ntmps170 rfl ?_
  intro W fr
  repeat' (first | refine Wka ?_ | intro _ | apply And.intro)
  refine JO_l (OL_call [0, 0, 0] rfl rfl rfl (wAdd (bz := bz) 1 h1 h2 hD hs (by constructor <;> omega) ht) rfl) rfl rfl ?_
  rintro _ _ ⟨_, ⟨rfl, rfl⟩, rfl⟩
  repeat' (first | refine Wka ?_ | intro _ | apply And.intro)
  refine JO_l (OL_call [3, 3, 3, 3, 3, 3, 3, 3, 3] rfl rfl rfl (FwdTop_spec hF) rfl) rfl rfl ?_
  rintro _ _ ⟨_, ⟨rfl, rfl⟩, rfl⟩
  rw [← hS]
  repeat' (first | refine Wka ?_ | intro _ | apply And.intro)
  refine JO_l0 (OL_store rfl rfl rfl rfl rfl rfl (i := 9) rfl (by rfl)) rfl ?_
  rintro _ _ rfl
  rw [show (S : Int) + (D : Int) * 16 = ((S + D * 16 : Nat) : Int) by omega]
  refine JO_nil ?_
  refine At_then_normal ?_
  refine J_hp (l' := wkR ps c who 186 region wv ov from_ to size refs (S + D * 16 : Nat) word end_ :: sdB ps pf p pw pz wa nW wc pv mv (tv + 1) :: cellsZ pz bz (sts.set 1 (D + 1)) :: fwdL pf p bw bs pm bm bst bf n T w nR ws st ms rs fs) (fun H hl => hl.pick (is := [0, 9, 9, 0, 0, 0, 0, 0, 0, 0, 0, 0]) rfl) ?_
  repeat' (first | refine Wka ?_ | intro _ | apply And.intro)
  refine J_plan [wkR ps c who 186 region wv ov from_ to size refs (S + D * 16 : Nat) word end_, sdB ps pf p pw pz wa nW wc pv mv (tv + 1)] (fun H hl => hl.pick (is := [0, 0]) rfl) [0, 0, 0, 0, 5, 0, 0, 0, 0, 5, 0, 0, 5, 2, 0, 0, 0, 6] (.q 0 (.q 1 (.q 2 (.q 3 (.q 4 (.q 5 (.q 6 (.q 7 (.q 8 (.q 9 (.q 10 (.q 11 (.q 12 (.l1 13 (.q 14 (.q 15 (.q 16 (.l1 17 .fin)))))))))))))))))) (by kernel_rfl) (by kernel_rfl) ?_
  repeat' (first | refine Wkf ?_ | intro _ | apply And.intro)
  refine JF_l1 (JFO_l rfl (OL_call [4, 4, 4] rfl rfl rfl heapTop rfl) rfl rfl (.inr ?_) ?_)
  · rintro _ _ ⟨_, ⟨rfl, rfl⟩, rfl⟩ H hl
    exact hl.pick (is := [3, 3]) rfl
  rintro _ _ ⟨_, ⟨rfl, rfl⟩, rfl⟩ _
  repeat' (first | refine Wkf ?_ | intro _ | apply And.intro)
  rw [show (if (T : Int) < ((S + D * 16 : Nat) : Int) + 16 then (T : Int) else ((S + D * 16 : Nat) : Int) + 16) = ((min (S + D * 16 + 16) T : Nat) : Int) by split <;> omega]
  refine JF_l1 (JFO_l0 rfl (OL_store rfl rfl rfl rfl rfl rfl (i := 3) rfl (by rfl)) rfl (.inl rfl) ?_)
  rintro _ _ rfl _
  repeat' (first | refine Wkf ?_ | intro _ | apply And.intro)
  repeat' (first | refine Wka ?_ | intro _ | apply And.intro)
  exact At_end rfl rfl .nil rfl (is := [0, 3, 3, 3, 0, 0, 0, 0, 0, 0, 0, 0]) rfl ⟨rfl, rfl⟩
set_option maxHeartbeats 8000000 in
theorem Clear_end (E : Nat) (h1 : 0 ≤ who) (h2 : who < 64) (hE : sts[2]? = some (E : Int)) (hE2 : E ≤ 1000000000) (he : at_ = end_) (hs : sts.length ≤ 65536) (ht : In64 (tv + 1)) :
    Does Tryz.prog 187 [ptr c 0] [wkR ps c who fn region wv ov from_ to size refs at_ word end_, sdB ps pf p pw pz wa nW wc pv mv tv, cellsZ pz bz sts]
    (fun u l => u = .tuple #[] ∧ l = [wkR ps c who 170 region wv ov from_ to size refs at_ word end_, sdB ps pf p pw pz wa nW wc pv mv (tv + 1), cellsZ pz bz (sts.set 2 (E + 1))]) := by
  refine Does.of tiok Tryz.func187 (by kernel_rfl) rfl Tryz.ntmps187 rfl ?_
  intro W fr
  repeat' (first | refine Wka ?_ | intro _ | apply And.intro)
  refine J_draw [0, 0, 0, 1, 0, 0, 0, 1, 0] (List.range 9) (by kernel_rfl) (by kernel_rfl) ?_
  repeat' (first | refine Wkd ?_ | intro _ | apply And.intro)
  repeat' (first | refine Wka ?_ | intro _ | apply And.intro)
  refine JO_l (OL_call [0, 0, 0] rfl rfl rfl (wAdd (bz := bz) 2 h1 h2 hE hs (by constructor <;> omega) ht) rfl) rfl rfl ?_
  rintro _ _ ⟨_, ⟨rfl, rfl⟩, rfl⟩
  repeat' (first | refine Wka ?_ | intro _ | apply And.intro)
  exact At_ret rfl rfl .nil rfl (is := [0, 0, 0]) rfl ⟨rfl, rfl⟩
set_option maxHeartbeats 8000000 in
theorem Clear_next (ai : Nat) (h1 : 0 ≤ who) (h2 : who < 64) (he : (ai : Int) ≠ end_) (hp : ai < wds.length) (hs : wds.length ≤ 65536) (ht : In64 (tv + 1)) :
    Does Tryz.prog 187 [ptr c 0] [wkR ps c who fn region wv ov from_ to size refs ai word end_, sdB ps pf p pw pz wa nW wc pv mv tv, cellsZ pw bw2 wds]
    (fun u l => u = .tuple #[] ∧ l = [wkR ps c who fn region wv ov from_ to size refs ((ai : Int) + 1) word end_, sdB ps pf p pw pz wa nW wc pv mv (tv + 1), cellsZ pw bw2 (wds.set ai 0)]) := by
  obtain ⟨t1, t2⟩ := ht
  refine Does.of tiok Tryz.func187 (by kernel_rfl) rfl Tryz.ntmps187 rfl ?_
  intro W fr
  repeat' (first | refine Wka ?_ | intro _ | apply And.intro)
  refine J_draw [0, 0, 0, 1, 0, 0, 0, 1, 0] (List.range 9) (by kernel_rfl) (by kernel_rfl) ?_
  repeat' (first | refine Wkd ?_ | intro _ | apply And.intro)
  repeat' (first | refine Wka ?_ | intro _ | apply And.intro)
  refine J_draw [0, 0, 0, 1, 0, 0, 1, 0, 0, 0, 1, 0, 0, 0, 1, 2] (List.range 16) (by kernel_rfl) (by kernel_rfl) ?_
  repeat' (first | refine Wkd ?_ | intro _ | apply And.intro)
  refine JX_l rfl rfl (OL_call [2] rfl rfl rfl (Store_z (p := pw) (bw := bw2) (ws := wds) who 0 ai h1 h2 hp hs) rfl) rfl rfl ?_
  rintro _ _ ⟨_, ⟨rfl, rfl⟩, rfl⟩
  repeat' (first | refine Wkd ?_ | intro _ | apply And.intro)
  repeat' (first | refine Wka ?_ | intro _ | apply And.intro)
  exact At_end rfl rfl .nil rfl (is := [0, 0, 0]) rfl ⟨rfl, rfl⟩
set_option maxHeartbeats 8000000 in
theorem Ready_wait (r : Nat) (wl : List Int) (xa : Option Addr) (xc : Nat) {y : Int} (h1 : 0 ≤ who) (h2 : who < 64) (hy : sts[3 + r]? = some y) (hs : sts.length ≤ 65536) (hl : wl.length ≤ 65536) (ht : In64 (tv + 1)) :
    Does Tryz.prog 150 [ptr c 0] [wkR ps c who fn region (.slice xa (wl.length + 1) xc) ov from_ to size refs at_ word end_, rowz 3 1 xa (wl.length + 1) xc (.int .i64 (r : Int) :: intsV wl), sdB ps pf p pw pz wa nW wc pv mv tv, cellsZ pz bz sts]
    (fun u l => u = .tuple #[] ∧ ((0 < y ∧ ∃ (xa' : Option Addr) (xc' : Nat), l = [wkR ps c who fn region (.slice xa' wl.length xc') ov from_ to size refs at_ word end_, rowz 3 1 xa' wl.length xc' (intsV wl), sdB ps pf p pw pz wa nW wc pv mv (tv + 1), cellsZ pz bz sts]) ∨
      (¬ 0 < y ∧ l = [wkR ps c who fn region (.slice xa (wl.length + 1) xc) ov from_ to size refs at_ word end_, rowz 3 1 xa (wl.length + 1) xc (.int .i64 (r : Int) :: intsV wl), sdB ps pf p pw pz wa nW wc pv mv (tv + 1), cellsZ pz bz sts]))) := by
  have hrl := (List.getElem?_eq_some_iff.1 hy).1
  refine Does.of tiok Tryz.func150 (by kernel_rfl) rfl Tryz.ntmps150 rfl ?_
  intro W fr
  refine J_rowzf (i := 1) rfl ?_
  rintro ⟨hcl, hnn, hcc⟩
  have hRd : Reads (rowz 3 1 xa (wl.length + 1) xc (.int .i64 (r : Int) :: intsV wl)) 1 (wl.length + 1) xa xc (.int .i64 (r : Int) :: intsV wl) := Reads.rowz hcl hnn
  refine J_fact _ (fun w hs => hRd.some (by omega) hs (by simp)) ?_
  rintro ⟨b, of, rfl⟩
  repeat' (first | refine Wka ?_ | intro _ | apply And.intro)
  refine JO_val (OV_idx (off := of + 0) rfl rfl rfl rfl (by omega) (by omega) (by simp)) rfl rfl ?_
  refine JO_q (OQ_read (i := 0) (v := .int .i64 r) hRd (by simp) rfl rfl (by omega) rfl) rfl rfl ?_
  repeat' (first | refine Wka ?_ | intro _ | apply And.intro)
  rw [show (3 : Int) + (r : Int) = ((3 + r : Nat) : Int) by omega]
  refine JO_l (OL_call [0, 1, 1] rfl rfl rfl (wLoad (bz := bz) (3 + r) h1 h2 hy hs ht) rfl) rfl rfl ?_
  rintro _ _ ⟨_, ⟨rfl, rfl⟩, rfl⟩
  by_cases hy0 : 0 < y
  · repeat' (first | refine Wka ?_ | intro _ | apply And.intro)
    refine JO_val (OV_slice (cap := xc) (len := wl.length + 1) (m := 1) (n := ((wl.length + 1 : Nat) : Int)) (p' := if xc = 1 then some ⟨b, of, none⟩ else some ⟨b, of + 1, none⟩) rfl rfl rfl rfl rfl rfl rfl (by omega) (by omega) (by omega) (by simp [addr_add])) rfl rfl ?_
    rw [show (((wl.length + 1 : Nat) : Int)).toNat - (1 : Int).toNat = wl.length by simp, show xc - (1 : Int).toNat = xc - 1 by simp]
    repeat' (first | refine Wka ?_ | intro _ | apply And.intro)
    refine At_end' rfl rfl .nil rfl (fun H hl => ?_) ⟨rfl, .inl ⟨hy0, (if xc = 1 then some ⟨b, of, none⟩ else some ⟨b, of + 1, none⟩), xc - 1, rfl⟩⟩
    have h1 := rowz_tail (hl.pick (l := _) (is := [3, 0, 0, 0]) rfl)
    exact h1.pick (is := [1, 0, 0, 0]) rfl
  · repeat' (first | refine Wka ?_ | intro _ | apply And.intro)
    exact At_end rfl rfl .nil rfl (is := [0, 2, 0, 0]) rfl ⟨rfl, .inr ⟨hy0, rfl⟩⟩
end raw
open Go.Sep
section ops
variable {ps pf p bw bs pm bm bst bf n T w nR pw bw2 pz bz nW wc : Nat} {wa : Option Addr} {mv tv : Int} {ws : List Int} {st : List Bool} {os : List RO} {ms : List Nat} {rs : List RG} {fs wds sts : List Int} {xs : List WX} {C D j : Nat} {x : WX} {Q A Z : Nat → Nat}
abbrev shZ (ps pf p bw bs pm bm bst bf n T w nR pw bw2 pz bz nW wc : Nat) (wa : Option Addr) (pv mv tv : Int) (ws : List Int) (st : List Bool) (ms : List Nat) (rs : List RG) (fs sts wds : List Int) : List HP :=
  sdB ps pf p pw pz wa nW wc pv mv tv :: cellsZ pz bz sts :: cellsZ pw bw2 wds :: fwdL pf p bw bs pm bm bst bf n T w nR ws st ms rs fs
structure SF (n T w nR : Nat) (ws : List Int) (st : List Bool) (os : List RO) (ms : List Nat) (rs : List RG) (fs : List Int) : Prop where
  h : HT n T ws st
  hc : Ch ws 0 os T
  hM : MI n ms
  hF : RF w nR (lvs ms os) rs fs
  hR : nR = numR w T
  hr : RightP ms os
  n6 : n ≤ 60000
theorem SF.hsz (F : SF n T w nR ws st os ms rs fs) : szL (lvs ms os) ≤ T ∧ (lvs ms os).length ≤ T := by
  have h1 := F.hc.sz
  have h2 : szL (lvs ms os) ≤ szL os := szL_filter
  have h3 := len_le_sz (L := lvs ms os)
  omega
theorem SF.nRT (F : SF n T w nR ws st os ms rs fs) : nR ≤ T := by rw [F.hR]; exact numR_le F.hF.w1
def StepPost (ps pf p bw bs pm bm bst bf n T w nR pw bw2 pz bz nW wc : Nat) (wa : Option Addr) (tv : Int) (ws : List Int) (st : List Bool) (os : List RO) (ms : List Nat) (rs : List RG) (fs sts : List Int) (xs : List WX) (C D j : Nat) (x : WX) (v : Value) (l : List HP) : Prop :=
  ∃ (x' : WX) (sts' wds' : List Int) (mv' tv' : Int) (C' D' : Nat), StepR n T w nR ws os ms xs sts tv C D j x x' sts' wds' mv' tv' C' D' ∧ v = .tuple #[] ∧
    l = wkL ps x' ++ shZ ps pf p bw bs pm bm bst bf n T w nR pw bw2 pz bz nW wc wa (partsI T (szL (lvs ms os)) : Nat) mv' tv' ws st ms rs fs sts' wds'
theorem Step_claim (F : SF n T w nR ws st os ms rs fs) (h : SI n T w nR ws os ms xs sts wds mv C D Q A Z) (hj : xs[j]? = some x) (hl : xs.length ≤ 64) (ht : In64 (tv + 1)) (hP : C + D + PhiI T w nR ws os ms xs C D ≤ 1000000000) (hf : x.fn = fnC) :
    Does Tryz.prog fnC [ptr x.c 0] (wkL ps x ++ shZ ps pf p bw bs pm bm bst bf n T w nR pw bw2 pz bz nW wc wa (partsI T (szL (lvs ms os)) : Nat) mv tv ws st ms rs fs sts wds) (StepPost ps pf p bw bs pm bm bst bf n T w nR pw bw2 pz bz nW wc wa tv ws st os ms rs fs sts xs C D j x) := by
  have hjl := (List.getElem?_eq_some_iff.1 hj).1
  have hw := h.who j x hj
  have hsl := h.sl
  have hnR := F.nRT
  have htn := F.h.tn
  have hn6 := F.n6
  have hCl := Claim_spec (ps := ps) (pf := pf) (p := p) (bw := bw) (bs := bs) (pm := pm) (bm := bm) (bst := bst) (bf := bf) (pw := pw) (pz := pz) (bz := bz) (nW := nW) (wc := wc) (wa := wa) (pv := (partsI T (szL (lvs ms os)) : Nat)) (mv := mv) (tv := tv) (x := x) (sts := sts) F.h F.hc F.hF C (by omega) (by omega) h.s0 (by omega) (by omega) ht
  refine (hCl.wide (is := [0, 0, 0, 0, 0, 1, 1, 1, 1, 1, 1, 1, 1, 1]) rfl).post ?_
  rintro v l ⟨_, ⟨x', hx', rfl, rfl⟩, rfl⟩
  refine ⟨_, ⟨x', sts.set 0 (C + 1), wds, mv, tv + 1, C + 1, D, ?_, rfl, rfl⟩, fun H hl => hl.pick (is := [0, 0, 0, 0, 0, 9, 0, 0, 0, 0, 0, 0, 0, 0, 0]) rfl⟩
  rcases hx' with ⟨hC, rfl⟩ | ⟨hC, wa', wc', oa', oc', rfl⟩
  · exact .lt (h.claim_end hj hf hC) (.inr rfl) rfl (Phi_claim_end hj hf hC rfl rfl) (by omega)
  · exact .lt (h.claim_next hj hf hC wa' oa' wc' oc') (.inr rfl) rfl (Phi_claim_next F.hc hj hf hC rfl ahL_len rfl) (by omega)
theorem Step_object (F : SF n T w nR ws st os ms rs fs) (h : SI n T w nR ws os ms xs sts wds mv C D Q A Z) (hj : xs[j]? = some x) (hl : xs.length ≤ 64) (ht : In64 (tv + 1)) (hf : x.fn = fnO) (f : Nat) :
    Does Tryz.prog fnO [ptr x.c 0] (wkL ps { x with fn := f } ++ shZ ps pf p bw bs pm bm bst bf n T w nR pw bw2 pz bz nW wc wa (partsI T (szL (lvs ms os)) : Nat) mv tv ws st ms rs fs sts wds) (StepPost ps pf p bw bs pm bm bst bf n T w nR pw bw2 pz bz nW wc wa tv ws st os ms rs fs sts xs C D j x) := by
  have hjl := (List.getElem?_eq_some_iff.1 hj).1
  have hw := h.who j x hj
  have hsl := h.sl
  have hnR := F.nRT
  have htn := F.h.tn
  have hn6 := F.n6
  have hsz := F.hsz
  obtain ⟨k, hr, hk, hC, h0, hQ, hA, hol, hd⟩ := (h.wk j x hj).object_inv hf
  have hoL : x.ol.length ≤ T := by
    have h1 := F.hF.len
    have h2 : (olI w k (Q k) (lvs ms os)).length ≤ (lvs ms os).length := by
      unfold olI
      rw [List.length_map, List.length_drop]
      have := List.length_filter_le (fun o : RO => decide (o.i / w = k)) (lvs ms os)
      unfold inR
      omega
    rw [hol]
    omega
  have hcase : x.ol = [] ∨ ∃ y rest, x.ol = y :: rest := by cases x.ol <;> simp
  rcases hcase with ho | ⟨y, rest, ho⟩
  · have e : wkL ps { x with fn := f } = [wkR ps x.c x.who f x.region (.slice x.wa x.wl.length x.wc) (.slice x.oa 0 x.oc) x.from_ x.to x.size x.refs x.at_ x.word x.end_, rowz 3 1 x.wa x.wl.length x.wc (intsV x.wl), rowz 3 1 x.oa 0 x.oc []] := by
      unfold wkL wkC
      rw [ho]; rfl
    rw [e]
    refine ((Object_end0 (ps := ps) (pf := pf) (p := p) (pw := pw) (pz := pz) (bz := bz) (nW := nW) (wc := wc) (wa := wa) (pv := (partsI T (szL (lvs ms os)) : Nat)) (mv := mv) (tv := tv) (sts := sts) (wv := .slice x.wa x.wl.length x.wc) (fn := f) (from_ := x.from_) (to := x.to) (size := x.size) (refs := x.refs) (at_ := x.at_) (word := x.word) (end_ := x.end_) (c := x.c) (who := x.who) (region := x.region) k x.oa x.oc (by omega) (by omega) hr (by omega) (by omega) ht).wide (is := [0, 2, 2]) rfl).post ?_
    rintro v l ⟨_, ⟨rfl, rfl⟩, rfl⟩
    refine ⟨_, ⟨{ x with fn := fnC }, sts.set (3 + k) 1, wds, mv, tv + 1, C, D, .lt (h.object_end hj hf hr ho) (.inr rfl) rfl (Phi_lt hj ?_) (by omega), rfl, rfl⟩, fun H hl => ?_⟩
    · rw [phi_O hf]
      exact Nat.lt_of_le_of_lt (Nat.le_of_eq (phi_C rfl)) (by omega)
    · have e2 : wkL ps { x with fn := fnC } = [wkR ps x.c x.who fnC x.region (.slice x.wa x.wl.length x.wc) (.slice x.oa 0 x.oc) x.from_ x.to x.size x.refs x.at_ x.word x.end_, rowz 3 1 x.wa x.wl.length x.wc (intsV x.wl), rowz 3 1 x.oa 0 x.oc []] := by
        unfold wkL wkC
        rw [ho]; rfl
      rw [e2]
      exact hl.pick (is := [0, 2, 2, 0, 0, 0, 0, 0, 0, 0, 0, 0, 0, 0, 0]) rfl
  · rw [ho] at hoL
    obtain ⟨i, o, hi, hlv, rfl, hS⟩ := h.object_next F.hc hj hf hr ho
    have e : wkL ps { x with fn := f } = [wkR ps x.c x.who f x.region (.slice x.wa x.wl.length x.wc) (.slice x.oa (rest.length + 1) x.oc) x.from_ x.to x.size x.refs x.at_ x.word x.end_, rowz 3 1 x.wa x.wl.length x.wc (intsV x.wl), rowz 3 1 x.oa (rest.length + 1) x.oc (.int .i64 (o.i : Int) :: intsV rest)] := by
      unfold wkL wkC
      rw [ho]; rfl
    rw [e]
    refine ((Object_next0 (ps := ps) (pf := pf) (p := p) (bw := bw) (bs := bs) (pm := pm) (bm := bm) (bst := bst) (bf := bf) (pw := pw) (pz := pz) (nW := nW) (wc := wc) (wa := wa) (pv := (partsI T (szL (lvs ms os)) : Nat)) (mv := mv) (tv := tv) (wv := .slice x.wa x.wl.length x.wc) (fn := f) (from_ := x.from_) (to := x.to) (size := x.size) (refs := x.refs) (at_ := x.at_) (word := x.word) (end_ := x.end_) (c := x.c) (who := x.who) (region := x.region) F.h F.hc F.hM F.hF F.hR hi hlv (rest := rest) x.oa x.oc (by simp only [List.length_cons] at hoL; omega)).wide (is := [0, 1, 1, 3, 3, 3, 3, 3, 3, 3, 3, 3]) rfl).post ?_
    rintro v l ⟨_, ⟨oa', oc', rfl, rfl⟩, rfl⟩
    refine ⟨_, ⟨{ x with fn := fnF, oa := oa', ol := rest, oc := oc', from_ := o.i, to := (goI ms os i : Nat), size := 1 + (o.ws.length : Int), refs := o.p, at_ := 0 }, sts, wds, mv, tv, C, D, .lt (hS oa' oc') (.inl rfl) rfl (Phi_lt hj ?_) (by omega), rfl, rfl⟩, fun H hl => hl.pick (is := [0, 11, 0, 0, 9, 9, 0, 0, 0, 0, 0, 0, 0, 0, 0]) rfl⟩
    rw [phi_O hf, ho]
    refine Nat.lt_of_le_of_lt (Nat.le_of_eq (phi_F rfl)) ?_
    have hwz := wsz_obj F.hc hi
    show rest.length + 2 * szA ws rest + 2 * (1 + (o.ws.length : Int) - 0).toNat + 1 + (nR + 5) < rest.length + 1 + 2 * (wszI ws o.i + szA ws rest) + 1 + (nR + 5)
    omega
theorem Step_fetch (F : SF n T w nR ws st os ms rs fs) (h : SI n T w nR ws os ms xs sts wds mv C D Q A Z) (hj : xs[j]? = some x) (hl : xs.length ≤ 64) (ht : In64 (tv + 1)) (hf : x.fn = fnF) :
    Does Tryz.prog fnF [ptr x.c 0] (wkL ps x ++ shZ ps pf p bw bs pm bm bst bf n T w nR pw bw2 pz bz nW wc wa (partsI T (szL (lvs ms os)) : Nat) mv tv ws st ms rs fs sts wds) (StepPost ps pf p bw bs pm bm bst bf n T w nR pw bw2 pz bz nW wc wa tv ws st os ms rs fs sts xs C D j x) := by
  have hjl := (List.getElem?_eq_some_iff.1 hj).1
  have hw := h.who j x hj
  have hsl := h.sl
  have hwl := h.wl
  have hnR := F.nRT
  have htn := F.h.tn
  have hn6 := F.n6
  have hsz := F.hsz
  obtain ⟨k, hr, hk, hC, h0, hol, hd, o, i, hcu⟩ := (h.wk j x hj).fetch_inv hf
  have hin := F.hc.o_lt hcu.hj
  have hlt := hcu.lt
  obtain ⟨v, hv⟩ : ∃ v, ws[o.i + A k]? = some v := ⟨ws[o.i + A k]'(by rw [F.h.wl]; omega), List.getElem?_eq_getElem _⟩
  have hv2 := (h.fetched F.hc hk h0 hcu).trans hv
  have e : wkL ps x = [wkR ps x.c x.who x.fn x.region (.slice x.wa x.wl.length x.wc) (.slice x.oa x.ol.length x.oc) (o.i : Nat) x.to x.size x.refs (A k : Nat) x.word x.end_, rowz 3 1 x.wa x.wl.length x.wc (intsV x.wl), rowz 3 1 x.oa x.ol.length x.oc (intsV x.ol)] := by
    unfold wkL wkC
    rw [hcu.fr, hcu.at_]
  rw [e]
  refine ((Fetch_spec (ps := ps) (pf := pf) (p := p) (pw := pw) (pz := pz) (nW := nW) (wc := wc) (wa := wa) (pv := (partsI T (szL (lvs ms os)) : Nat)) (mv := mv) (tv := tv) (c := x.c) (who := x.who) (fn := x.fn) (region := x.region) (wv := .slice x.wa x.wl.length x.wc) (ov := .slice x.oa x.ol.length x.oc) (bw2 := bw2) (to := x.to) (size := x.size) (refs := x.refs) (word := x.word) (end_ := x.end_) o.i (A k) (by omega) (by omega) hv2 (by omega) ht).wide (is := [0, 2, 3]) rfl).post ?_
  rintro u l ⟨_, ⟨rfl, rfl⟩, rfl⟩
  refine ⟨_, ⟨{ x with word := v, fn := fnL }, sts, wds, mv, tv + 1, C, D, .lt (h.fetch hj hf hr hcu hv) (.inr rfl) rfl (Phi_lt hj ?_) (by omega), rfl, rfl⟩, fun H hl => ?_⟩
  · rw [phi_F hf]
    exact Nat.lt_of_le_of_lt (Nat.le_of_eq (phi_L rfl)) (by show x.ol.length + 2 * szA ws x.ol + 2 * (x.size - x.at_).toNat + (nR + 5) < _; omega)
  · have e2 : wkL ps { x with word := v, fn := fnL } = [wkR ps x.c x.who fnL x.region (.slice x.wa x.wl.length x.wc) (.slice x.oa x.ol.length x.oc) (o.i : Nat) x.to x.size x.refs (A k : Nat) v x.end_, rowz 3 1 x.wa x.wl.length x.wc (intsV x.wl), rowz 3 1 x.oa x.ol.length x.oc (intsV x.ol)] := by
      unfold wkL wkC
      rw [hcu.fr, hcu.at_]
    rw [e2]
    exact hl.pick (is := [0, 2, 2, 0, 1, 0, 0, 0, 0, 0, 0, 0, 0, 0, 0]) rfl
theorem Step_lay (F : SF n T w nR ws st os ms rs fs) (h : SI n T w nR ws os ms xs sts wds mv C D Q A Z) (hj : xs[j]? = some x) (hl : xs.length ≤ 64) (ht : In64 (tv + 1)) (hf : x.fn = fnL) :
    Does Tryz.prog fnL [ptr x.c 0] (wkL ps x ++ shZ ps pf p bw bs pm bm bst bf n T w nR pw bw2 pz bz nW wc wa (partsI T (szL (lvs ms os)) : Nat) mv tv ws st ms rs fs sts wds) (StepPost ps pf p bw bs pm bm bst bf n T w nR pw bw2 pz bz nW wc wa tv ws st os ms rs fs sts xs C D j x) := by
  have hjl := (List.getElem?_eq_some_iff.1 hj).1
  have hw := h.who j x hj
  have hsl := h.sl
  have hwl := h.wl
  have hnR := F.nRT
  have htn := F.h.tn
  have hn6 := F.n6
  have hsz := F.hsz
  obtain ⟨k, hr, hk, hC, h0, hol, hd, o, i, hcu, hword⟩ := (h.wk j x hj).lay_inv hf
  have hin := F.hc.o_lt hcu.hj
  have hlt := hcu.lt
  have hgl := goI_le ms F.hc hcu.hj
  have hmv := h.mv_le F.hc F.hR F.hF.w1
  have hat := (F.hc.at hcu.hj).2
  have hmm : In64 (mv + 1) := ⟨by omega, by omega⟩
  obtain ⟨v, hv⟩ : ∃ v, (nwO ms os o)[A k]? = some v := ⟨(nwO ms os o)[A k]'(by rw [nwO_len]; omega), List.getElem?_eq_getElem _⟩
  have hz : (0 < A k ∧ ((A k : Nat) : Int) ≤ o.p ∧ ∃ e : Int, Does Tryz.prog 80 [ptr pf 0, .int .i64 x.word] (fwdL pf p bw bs pm bm bst bf n T w nR ws st ms rs fs) (fun u l => u = .tuple #[.int .i64 v, .int .i64 e] ∧ l = fwdL pf p bw bs pm bm bst bf n T w nR ws st ms rs fs)) ∨ (¬ (0 < A k ∧ ((A k : Nat) : Int) ≤ o.p) ∧ v = x.word) := by
    by_cases ha : 0 < A k
    · obtain ⟨t, ht2⟩ : ∃ t, A k = t + 1 := ⟨A k - 1, by omega⟩
      have hwt : o.ws[t]? = some x.word := by
        rw [← hat.2.2.2.1 t (by omega), ← hword, ht2]
        congr 1
        omega
      have hv3 : v = if (t : Int) < o.p then fwI ms os x.word else x.word := by
        rw [ht2] at hv
        have h1 : (fwL ms os o)[t]? = some v := hv
        rw [fwL_at hwt] at h1
        injection h1 with h1
        exact h1.symm
      by_cases hp : (t : Int) < o.p
      · left
        rw [if_pos hp] at hv3
        refine ⟨ha, by omega, ?_⟩
        rcases F.hr i o hcu.hj hcu.hl t x.word hp hwt with h0 | ⟨i2, o2, hi2, hl2, he⟩
        · rw [hv3, h0, fwI_zero]
          exact ⟨0, Word_zero⟩
        · have hw2 : x.word = (o2.i : Int) + 1 := by omega
          rw [hv3, hw2, fwI_obj F.hc hi2]
          exact ⟨0, Word_yes F.h F.hc F.hM F.hF F.hR hi2 hl2⟩
      · right
        rw [if_neg hp] at hv3
        exact ⟨by omega, hv3⟩
    · right
      refine ⟨fun e => ha e.1, ?_⟩
      have h00 : A k = 0 := by omega
      rw [h00] at hv hword
      have h1 : some (packI o.k o.ws.length o.p) = some v := hv
      rw [Nat.add_zero, hat.2.2.1, h1] at hword
      injection hword
  obtain ⟨Q', A', hS⟩ := h.lay F.hc F.h.wl F.h.tn hj hf hr hcu hv
  have e : wkL ps x = [wkR ps x.c x.who x.fn x.region (.slice x.wa x.wl.length x.wc) (.slice x.oa x.ol.length x.oc) x.from_ (goI ms os i : Nat) x.size o.p (A k : Nat) x.word x.end_, rowz 3 1 x.wa x.wl.length x.wc (intsV x.wl), rowz 3 1 x.oa x.ol.length x.oc (intsV x.ol)] := by
    unfold wkL wkC
    rw [hcu.to, hcu.at_, hcu.rf]
  rw [e]
  refine ((Lay_spec (ps := ps) (pf := pf) (p := p) (pw := pw) (pz := pz) (nW := nW) (wc := wc) (wa := wa) (pv := (partsI T (szL (lvs ms os)) : Nat)) (mv := mv) (tv := tv) (c := x.c) (who := x.who) (fn := x.fn) (region := x.region) (wv := .slice x.wa x.wl.length x.wc) (ov := .slice x.oa x.ol.length x.oc) (bw2 := bw2) (bw := bw) (bs := bs) (pm := pm) (bm := bm) (bst := bst) (bf := bf) (from_ := x.from_) (size := x.size) (refs := o.p) (word := x.word) (end_ := x.end_) (goI ms os i) (A k) v (by omega) (by omega) hz (by omega) (by omega) ht hmm).wide (is := [0, 2, 3, 3, 3, 3, 3, 3, 3, 3, 3, 3]) rfl).post ?_
  rintro u l ⟨_, ⟨rfl, rfl⟩, rfl⟩
  refine ⟨_, ⟨{ x with word := v, at_ := (A k : Int) + 1, fn := if (A k : Int) + 1 = x.size then fnO else fnF }, sts, wds.set (goI ms os i + A k) v, if (A k : Int) + 1 = x.size then mv + 1 else mv, tv + 1, C, D, .lt hS (.inr rfl) rfl (Phi_lt hj ?_) (by omega), rfl, rfl⟩, fun H hl => ?_⟩
  · have hsz2 := hcu.sz
    have hat2 := hcu.at_
    rw [phi_L hf]
    by_cases hlast : (A k : Int) + 1 = x.size
    · refine Nat.lt_of_le_of_lt (Nat.le_of_eq (phi_O (by show (if _ then fnO else fnF) = fnO; rw [if_pos hlast]))) ?_
      show x.ol.length + 2 * szA ws x.ol + 1 + (nR + 5) < _
      omega
    · refine Nat.lt_of_le_of_lt (Nat.le_of_eq (phi_F (by show (if _ then fnO else fnF) = fnF; rw [if_neg hlast]))) ?_
      show x.ol.length + 2 * szA ws x.ol + 2 * (x.size - ((A k : Int) + 1)).toNat + 1 + (nR + 5) < _
      omega
  · have e2 : wkL ps { x with word := v, at_ := (A k : Int) + 1, fn := if (A k : Int) + 1 = x.size then fnO else fnF } = [wkR ps x.c x.who (if (A k : Int) + 1 = x.size then fnO else fnF) x.region (.slice x.wa x.wl.length x.wc) (.slice x.oa x.ol.length x.oc) x.from_ (goI ms os i : Nat) x.size o.p ((A k : Int) + 1) v x.end_, rowz 3 1 x.wa x.wl.length x.wc (intsV x.wl), rowz 3 1 x.oa x.ol.length x.oc (intsV x.ol)] := by
      unfold wkL wkC
      rw [hcu.to, hcu.rf]
    rw [e2]
    exact hl.pick (is := [0, 11, 11, 0, 10, 0, 0, 0, 0, 0, 0, 0, 0, 0, 0]) rfl
end ops
open Go.Sep
section ops
variable {ps pf p bw bs pm bm bst bf n T w nR pw bw2 pz bz nW wc : Nat} {wa : Option Addr} {mv tv : Int} {ws : List Int} {st : List Bool} {os : List RO} {ms : List Nat} {rs : List RG} {fs wds sts : List Int} {xs : List WX} {C D j : Nat} {x : WX} {Q A Z : Nat → Nat}
theorem Step_rest (F : SF n T w nR ws st os ms rs fs) (h : SI n T w nR ws os ms xs sts wds mv C D Q A Z) (hj : xs[j]? = some x) (hl : xs.length ≤ 64) (ht : In64 (tv + 1)) (hf : x.fn = fnX) :
    Does Tryz.prog fnX [ptr x.c 0] (wkL ps x ++ shZ ps pf p bw bs pm bm bst bf n T w nR pw bw2 pz bz nW wc wa (partsI T (szL (lvs ms os)) : Nat) mv tv ws st ms rs fs sts wds) (StepPost ps pf p bw bs pm bm bst bf n T w nR pw bw2 pz bz nW wc wa tv ws st os ms rs fs sts xs C D j x) := by
  have hjl := (List.getElem?_eq_some_iff.1 hj).1
  have hw := h.who j x hj
  have hsl := h.sl
  have hwl := h.wl
  have hnR := F.nRT
  have htn := F.h.tn
  have hn6 := F.n6
  have hsz := F.hsz
  refine (Rest_spec.wide (L := wkL ps x ++ shZ ps pf p bw bs pm bm bst bf n T w nR pw bw2 pz bz nW wc wa (partsI T (szL (lvs ms os)) : Nat) mv tv ws st ms rs fs sts wds) (is := []) rfl).post ?_
  rintro u l ⟨_, ⟨rfl, rfl⟩, rfl⟩
  exact ⟨_, ⟨x, sts, wds, mv, tv, C, D, .stay hj h (.inl rfl) (.inr (.inr hf)), rfl, rfl⟩, fun H hl => hl⟩
theorem Step_all (F : SF n T w nR ws st os ms rs fs) (h : SI n T w nR ws os ms xs sts wds mv C D Q A Z) (hj : xs[j]? = some x) (hl : xs.length ≤ 64) (ht : In64 (tv + 1)) (hf : x.fn = fnA) :
    Does Tryz.prog fnA [ptr x.c 0] (wkL ps x ++ shZ ps pf p bw bs pm bm bst bf n T w nR pw bw2 pz bz nW wc wa (partsI T (szL (lvs ms os)) : Nat) mv tv ws st ms rs fs sts wds) (StepPost ps pf p bw bs pm bm bst bf n T w nR pw bw2 pz bz nW wc wa tv ws st os ms rs fs sts xs C D j x) := by
  have hjl := (List.getElem?_eq_some_iff.1 hj).1
  have hw := h.who j x hj
  have hsl := h.sl
  have hwl := h.wl
  have hnR := F.nRT
  have htn := F.h.tn
  have hn6 := F.n6
  have hsz := F.hsz
  obtain ⟨hC, a, ha, han, hd⟩ := (h.wk j x hj).all_inv hf
  have e : wkL ps x = [wkR ps x.c x.who x.fn x.region (.slice x.wa x.wl.length x.wc) (.slice x.oa x.ol.length x.oc) x.from_ x.to x.size x.refs a x.word x.end_, rowz 3 1 x.wa x.wl.length x.wc (intsV x.wl), rowz 3 1 x.oa x.ol.length x.oc (intsV x.ol)] := by
    unfold wkL wkC
    rw [ha]
  by_cases hlt : a < nR
  · obtain ⟨y, hy⟩ : ∃ y, sts[3 + a]? = some y := ⟨sts[3 + a]'(by omega), List.getElem?_eq_getElem _⟩
    rw [e]
    refine ((All_look (ps := ps) (pf := pf) (p := p) (pw := pw) (pz := pz) (nW := nW) (wc := wc) (wa := wa) (pv := (partsI T (szL (lvs ms os)) : Nat)) (mv := mv) (tv := tv) (c := x.c) (who := x.who) (fn := x.fn) (region := x.region) (wv := .slice x.wa x.wl.length x.wc) (ov := .slice x.oa x.ol.length x.oc) (from_ := x.from_) (to := x.to) (size := x.size) (refs := x.refs) (word := x.word) (end_ := x.end_) (bz := bz) (pm := pm) (w := w) (bst := bst) (bf := bf) a (by omega) (by omega) hlt (by omega) hy (by omega) ht).wide (is := [0, 2, 4, 2]) rfl).post ?_
    rintro u l ⟨_, ⟨rfl, rfl⟩, rfl⟩
    rcases h.d01 a hlt with h0 | h1
    · rw [hy] at h0
      injection h0 with h0
      subst h0
      refine ⟨_, ⟨x, sts, wds, mv, tv + 1, C, D, .stay hj h (.inr rfl) (.inr (.inl ⟨hf, a, ha, hlt, hy⟩)), rfl, rfl⟩, fun H hl => ?_⟩
      rw [e]
      exact hl.pick (is := [0, 3, 3, 0, 1, 1, 0, 0, 0, 0, 0, 0, 0, 0, 0]) rfl
    · rw [hy] at h1
      injection h1 with h1
      subst h1
      refine ⟨_, ⟨{ x with at_ := (a : Int) + 1 }, sts, wds, mv, tv + 1, C, D, .lt (h.all_look hj hf ha hlt hy) (.inr rfl) rfl (Phi_lt hj ?_) (by omega), rfl, rfl⟩, fun H hl => hl.pick (is := [0, 3, 3, 0, 1, 1, 0, 0, 0, 0, 0, 0, 0, 0, 0]) rfl⟩
      rw [phi_A hf]
      refine Nat.lt_of_le_of_lt (Nat.le_of_eq (phi_A hf)) ?_
      show nR - ((a : Int) + 1).toNat + 3 < _
      omega
  · have han2 : a = nR := by omega
    refine ((All_end (ps := ps) (pf := pf) (p := p) (pw := pw) (pz := pz) (nW := nW) (wc := wc) (wa := wa) (pv := (partsI T (szL (lvs ms os)) : Nat)) (mv := mv) (tv := tv) (c := x.c) (who := x.who) (fn := x.fn) (region := x.region) (wv := .slice x.wa x.wl.length x.wc) (ov := .slice x.oa x.ol.length x.oc) (from_ := x.from_) (to := x.to) (size := x.size) (refs := x.refs) (word := x.word) (at_ := x.at_) (end_ := x.end_) (pm := pm) (w := w) (bst := bst) (bf := bf) (nR := nR) (by omega)).wide (is := [0, 2, 4]) rfl).post ?_
    rintro u l ⟨_, ⟨rfl, rfl⟩, rfl⟩
    refine ⟨_, ⟨{ x with fn := fnP }, sts, wds, mv, tv, C, D, .lt (h.all_end hj hf (by omega)) (.inl rfl) rfl (Phi_lt hj ?_) (by omega), rfl, rfl⟩, fun H hl => hl.pick (is := [0, 2, 2, 0, 1, 1, 0, 0, 0, 0, 0, 0, 0, 0, 0]) rfl⟩
    rw [phi_A hf]
    exact Nat.lt_of_le_of_lt (Nat.le_of_eq (phi_P rfl)) (by omega)
theorem Step_part (F : SF n T w nR ws st os ms rs fs) (h : SI n T w nR ws os ms xs sts wds mv C D Q A Z) (hj : xs[j]? = some x) (hl : xs.length ≤ 64) (ht : In64 (tv + 1)) (hP : C + D + PhiI T w nR ws os ms xs C D ≤ 1000000000) (hf : x.fn = fnP) :
    Does Tryz.prog fnP [ptr x.c 0] (wkL ps x ++ shZ ps pf p bw bs pm bm bst bf n T w nR pw bw2 pz bz nW wc wa (partsI T (szL (lvs ms os)) : Nat) mv tv ws st ms rs fs sts wds) (StepPost ps pf p bw bs pm bm bst bf n T w nR pw bw2 pz bz nW wc wa tv ws st os ms rs fs sts xs C D j x) := by
  have hjl := (List.getElem?_eq_some_iff.1 hj).1
  have hw := h.who j x hj
  have hsl := h.sl
  have hwl := h.wl
  have hnR := F.nRT
  have htn := F.h.tn
  have hn6 := F.n6
  have hsz := F.hsz
  by_cases hD : D < partsI T (szL (lvs ms os))
  · have hDb : D ≤ 65536 := by unfold partsI at hD; omega
    refine ((Part_next (ps := ps) (pf := pf) (p := p) (pw := pw) (pz := pz) (nW := nW) (wc := wc) (wa := wa) (pv := (partsI T (szL (lvs ms os)) : Nat)) (mv := mv) (tv := tv) (c := x.c) (who := x.who) (fn := x.fn) (region := x.region) (wv := .slice x.wa x.wl.length x.wc) (ov := .slice x.oa x.ol.length x.oc) (from_ := x.from_) (to := x.to) (size := x.size) (refs := x.refs) (word := x.word) (at_ := x.at_) (end_ := x.end_) (bz := bz) (bw := bw) (bs := bs) (pm := pm) (bm := bm) (bst := bst) (bf := bf) (n := n) (T := T) (w := w) (nR := nR) (ws := ws) (st := st) (fs := fs) D (szL (lvs ms os)) F.hF rfl (by omega) (by omega) h.s1 hDb (by omega) (by omega) (by omega) (by omega) ht).wide (is := [0, 2, 2, 3, 3, 3, 3, 3, 3, 3, 3, 3]) rfl).post ?_
    rintro u l ⟨_, ⟨rfl, rfl⟩, rfl⟩
    exact ⟨_, ⟨{ x with fn := fnZ, at_ := (szL (lvs ms os) + D * 16 : Nat), end_ := (partE T (szL (lvs ms os)) D : Nat) }, sts.set 1 (D + 1), wds, mv, tv + 1, C, D + 1, .lt (h.part_next hj hf hD) (.inr rfl) rfl (Phi_part hj hf hD rfl rfl rfl) (by omega), rfl, rfl⟩, fun H hl => hl.pick (is := [0, 11, 11, 0, 0, 9, 0, 0, 0, 0, 0, 0, 0, 0, 0]) rfl⟩
  · refine ((Part_none (ps := ps) (pf := pf) (p := p) (pw := pw) (pz := pz) (nW := nW) (wc := wc) (wa := wa) (pv := (partsI T (szL (lvs ms os)) : Nat)) (mv := mv) (tv := tv) (c := x.c) (who := x.who) (fn := x.fn) (region := x.region) (wv := .slice x.wa x.wl.length x.wc) (ov := .slice x.oa x.ol.length x.oc) (from_ := x.from_) (to := x.to) (size := x.size) (refs := x.refs) (word := x.word) (at_ := x.at_) (end_ := x.end_) (bz := bz) D (by omega) (by omega) h.s1 (by omega) (by omega) (by omega) ht).wide (is := [0, 2, 2]) rfl).post ?_
    rintro u l ⟨_, ⟨rfl, rfl⟩, rfl⟩
    exact ⟨_, ⟨{ x with fn := fnX }, sts.set 1 (D + 1), wds, mv, tv + 1, C, D + 1, .lt (h.part_none hj hf (by omega)) (.inr rfl) rfl (Phi_part_none hj hf rfl) (by omega), rfl, rfl⟩, fun H hl => hl.pick (is := [0, 2, 2, 0, 0, 0, 0, 0, 0, 0, 0, 0, 0, 0, 0]) rfl⟩
theorem Step_clear (F : SF n T w nR ws st os ms rs fs) (h : SI n T w nR ws os ms xs sts wds mv C D Q A Z) (hj : xs[j]? = some x) (hl : xs.length ≤ 64) (ht : In64 (tv + 1)) (hP : C + D + PhiI T w nR ws os ms xs C D ≤ 1000000000) (hf : x.fn = fnZ) :
    Does Tryz.prog fnZ [ptr x.c 0] (wkL ps x ++ shZ ps pf p bw bs pm bm bst bf n T w nR pw bw2 pz bz nW wc wa (partsI T (szL (lvs ms os)) : Nat) mv tv ws st ms rs fs sts wds) (StepPost ps pf p bw bs pm bm bst bf n T w nR pw bw2 pz bz nW wc wa tv ws st os ms rs fs sts xs C D j x) := by
  have hjl := (List.getElem?_eq_some_iff.1 hj).1
  have hw := h.who j x hj
  have hsl := h.sl
  have hwl := h.wl
  have hnR := F.nRT
  have htn := F.h.tn
  have hn6 := F.n6
  have hsz := F.hsz
  by_cases he : x.at_ = x.end_
  · obtain ⟨E, hE, hS⟩ := h.clear_end hj hf he
    obtain ⟨E2, hE2, hE3⟩ := h.s2
    have hEE : E = E2 := by rw [hE] at hE2; injection hE2 with hE2; omega
    refine ((Clear_end (ps := ps) (pf := pf) (p := p) (pw := pw) (pz := pz) (nW := nW) (wc := wc) (wa := wa) (pv := (partsI T (szL (lvs ms os)) : Nat)) (mv := mv) (tv := tv) (c := x.c) (who := x.who) (fn := x.fn) (region := x.region) (wv := .slice x.wa x.wl.length x.wc) (ov := .slice x.oa x.ol.length x.oc) (from_ := x.from_) (to := x.to) (size := x.size) (refs := x.refs) (word := x.word) (at_ := x.at_) (end_ := x.end_) (bz := bz) E (by omega) (by omega) hE (by omega) he (by omega) ht).wide (is := [0, 2, 2]) rfl).post ?_
    rintro u l ⟨_, ⟨rfl, rfl⟩, rfl⟩
    refine ⟨_, ⟨{ x with fn := fnP }, sts.set 2 (E + 1), wds, mv, tv + 1, C, D, .lt hS (.inr rfl) rfl (Phi_lt hj ?_) (by omega), rfl, rfl⟩, fun H hl => hl.pick (is := [0, 2, 2, 0, 0, 0, 0, 0, 0, 0, 0, 0, 0, 0, 0]) rfl⟩
    rw [phi_Z hf]
    exact Nat.lt_of_le_of_lt (Nat.le_of_eq (phi_P rfl)) (by omega)
  · obtain ⟨a, Z', ha, han, hS⟩ := h.clear_next F.h.tn hj hf he
    have e : wkL ps x = [wkR ps x.c x.who x.fn x.region (.slice x.wa x.wl.length x.wc) (.slice x.oa x.ol.length x.oc) x.from_ x.to x.size x.refs a x.word x.end_, rowz 3 1 x.wa x.wl.length x.wc (intsV x.wl), rowz 3 1 x.oa x.ol.length x.oc (intsV x.ol)] := by
      unfold wkL wkC
      rw [ha]
    obtain ⟨hd, c, hc, hD, he2, ha2⟩ := (h.wk j x hj).clear_inv hf
    have hzl := h.zl c
    have hpe : szL (lvs ms os) + c * 16 ≤ partE T (szL (lvs ms os)) c := by
      unfold partE
      unfold partsI at hc
      omega
    have hle : x.at_ ≤ x.end_ := by
      unfold partL at hzl
      omega
    rw [e]
    refine ((Clear_next (ps := ps) (pf := pf) (p := p) (pw := pw) (pz := pz) (nW := nW) (wc := wc) (wa := wa) (pv := (partsI T (szL (lvs ms os)) : Nat)) (mv := mv) (tv := tv) (c := x.c) (who := x.who) (fn := x.fn) (region := x.region) (wv := .slice x.wa x.wl.length x.wc) (ov := .slice x.oa x.ol.length x.oc) (from_ := x.from_) (to := x.to) (size := x.size) (refs := x.refs) (word := x.word) (end_ := x.end_) (bw2 := bw2) a (by omega) (by omega) (by omega) (by omega) (by omega) ht).wide (is := [0, 2, 3]) rfl).post ?_
    rintro u l ⟨_, ⟨rfl, rfl⟩, rfl⟩
    refine ⟨_, ⟨{ x with at_ := (a : Int) + 1 }, sts, wds.set a 0, mv, tv + 1, C, D, .lt hS (.inr rfl) rfl (Phi_lt hj ?_) (by omega), rfl, rfl⟩, fun H hl => hl.pick (is := [0, 2, 2, 0, 1, 0, 0, 0, 0, 0, 0, 0, 0, 0, 0]) rfl⟩
    rw [phi_Z hf]
    refine Nat.lt_of_le_of_lt (Nat.le_of_eq (phi_Z hf)) ?_
    show (x.end_ - ((a : Int) + 1)).toNat + 2 < _
    omega
theorem Ready_obj {f : Nat} {c : Nat} {who region from_ to size refs at_ word end_ : Int} {xa : Option Addr} {xc : Nat} {ov : Value} {pre : List HP} {post : List HP → Prop}
    (hO : Does Tryz.prog fnO [ptr c 0] (wkR ps c who f region (.slice xa 0 xc) ov from_ to size refs at_ word end_ :: pre) (fun v l => v = .tuple #[] ∧ post l)) :
    Does Tryz.prog fnR [ptr c 0] (wkR ps c who f region (.slice xa 0 xc) ov from_ to size refs at_ word end_ :: pre) (fun v l => v = .tuple #[] ∧ post l) := by
  refine Does.of tiok Tryz.func150 (by kernel_rfl) rfl Tryz.ntmps150 rfl ?_
  intro W fr
  repeat' (first | refine Wka ?_ | intro _ | apply And.intro)
  refine JO_l (OL_callP (r := []) rfl rfl rfl hO (by rw [List.append_nil])) rfl rfl ?_
  rintro _ _ ⟨l1, ⟨rfl, hp⟩, rfl⟩
  repeat' (first | refine Wka ?_ | intro _ | apply And.intro)
  exact At_ret' rfl rfl .nil rfl (fun H hl => hl) ⟨rfl, by rw [List.append_nil]; exact hp⟩
theorem Step_ready (F : SF n T w nR ws st os ms rs fs) (h : SI n T w nR ws os ms xs sts wds mv C D Q A Z) (hj : xs[j]? = some x) (hl : xs.length ≤ 64) (ht : In64 (tv + 1)) (hf : x.fn = fnR) :
    Does Tryz.prog fnR [ptr x.c 0] (wkL ps x ++ shZ ps pf p bw bs pm bm bst bf n T w nR pw bw2 pz bz nW wc wa (partsI T (szL (lvs ms os)) : Nat) mv tv ws st ms rs fs sts wds) (StepPost ps pf p bw bs pm bm bst bf n T w nR pw bw2 pz bz nW wc wa tv ws st os ms rs fs sts xs C D j x) := by
  have hjl := (List.getElem?_eq_some_iff.1 hj).1
  have hw := h.who j x hj
  have hsl := h.sl
  have hwl := h.wl
  have hnR := F.nRT
  have htn := F.h.tn
  have hn6 := F.n6
  have hsz := F.hsz
  obtain ⟨k, hr, hk, hC, h0, ho, hlk, hb⟩ := (h.wk j x hj).ready_inv hf
  have hcase : x.wl = [] ∨ ∃ y rest, x.wl = y :: rest := by cases x.wl <;> simp
  rcases hcase with hw0 | ⟨y, rest, hw0⟩
  · have hS := h.ready_go hj hf hw0
    have hO := Step_object (ps := ps) (pf := pf) (p := p) (bw := bw) (bs := bs) (pm := pm) (bm := bm) (bst := bst) (bf := bf) (pw := pw) (bw2 := bw2) (pz := pz) (bz := bz) (nW := nW) (wc := wc) (wa := wa) F hS (set_hit hj) (by rw [List.length_set]; exact hl) ht rfl x.fn
    have e : wkL ps x = [wkR ps x.c x.who x.fn x.region (.slice x.wa 0 x.wc) (.slice x.oa x.ol.length x.oc) x.from_ x.to x.size x.refs x.at_ x.word x.end_, rowz 3 1 x.wa 0 x.wc [], rowz 3 1 x.oa x.ol.length x.oc (intsV x.ol)] := by
      unfold wkL wkC
      rw [hw0]; rfl
    have hO2 : Does Tryz.prog fnO [ptr x.c 0] (wkL ps x ++ shZ ps pf p bw bs pm bm bst bf n T w nR pw bw2 pz bz nW wc wa (partsI T (szL (lvs ms os)) : Nat) mv tv ws st ms rs fs sts wds) (fun v l => v = .tuple #[] ∧ StepPost ps pf p bw bs pm bm bst bf n T w nR pw bw2 pz bz nW wc wa tv ws st os ms rs fs sts (xs.set j { x with fn := fnO }) C D j { x with fn := fnO } v l) :=
      hO.mono fun v l hp => ⟨by obtain ⟨_, _, _, _, _, _, _, _, hv, _⟩ := hp; exact hv, hp⟩
    rw [e] at hO2 ⊢
    refine (Ready_obj (post := fun l => StepPost ps pf p bw bs pm bm bst bf n T w nR pw bw2 pz bz nW wc wa tv ws st os ms rs fs sts (xs.set j { x with fn := fnO }) C D j { x with fn := fnO } (.tuple #[]) l) (hO2.mono fun v l ⟨hv, hp⟩ => ⟨hv, hv ▸ hp⟩)).mono ?_
    rintro v l ⟨rfl, x', sts', wds', mv', tv', C', D', ⟨⟨Q', A', Z', hS2⟩, g1, g2, g3, g4⟩, _, rfl⟩
    have hlt : PhiI T w nR ws os ms (xs.set j { x with fn := fnO }) C D < PhiI T w nR ws os ms xs C D := by
      refine Phi_lt hj ?_
      rw [phi_R hf]
      refine Nat.lt_of_le_of_lt (Nat.le_of_eq (phi_O rfl)) ?_
      show x.ol.length + 2 * szA ws x.ol + 1 + (nR + 5) < _
      omega
    have ess : (xs.set j { x with fn := fnO }).set j x' = xs.set j x' := List.set_set ..
    rw [ess] at hS2 g2 g4
    refine ⟨x', sts', wds', mv', tv', C', D', ⟨⟨Q', A', Z', hS2⟩, g1, by omega, g3, .inl ?_⟩, rfl, rfl⟩
    rcases g4 with g4 | ⟨hk2, _⟩
    · omega
    · exfalso
      rcases hk2 with ⟨e2, _⟩ | ⟨e2, _⟩ | e2
      · have e2 : fnO = fnR := e2
        exact absurd e2 (by decide)
      · have e2 : fnO = fnA := e2
        exact absurd e2 (by decide)
      · have e2 : fnO = fnX := e2
        exact absurd e2 (by decide)
  · obtain ⟨r, rfl, hrk⟩ := hb y (by rw [hw0]; exact .head _)
    have hwlen : rest.length + 1 ≤ k := by rw [hw0] at hlk; exact hlk
    obtain ⟨v, hv⟩ : ∃ v, sts[3 + r]? = some v := ⟨sts[3 + r]'(by omega), List.getElem?_eq_getElem _⟩
    have e : wkL ps x = [wkR ps x.c x.who x.fn x.region (.slice x.wa (rest.length + 1) x.wc) (.slice x.oa x.ol.length x.oc) x.from_ x.to x.size x.refs x.at_ x.word x.end_, rowz 3 1 x.wa (rest.length + 1) x.wc (.int .i64 (r : Int) :: intsV rest), rowz 3 1 x.oa x.ol.length x.oc (intsV x.ol)] := by
      unfold wkL wkC
      rw [hw0]; rfl
    rw [e]
    refine ((Ready_wait (ps := ps) (pf := pf) (p := p) (pw := pw) (pz := pz) (nW := nW) (wc := wc) (wa := wa) (pv := (partsI T (szL (lvs ms os)) : Nat)) (mv := mv) (tv := tv) (c := x.c) (who := x.who) (fn := x.fn) (region := x.region) (from_ := x.from_) (to := x.to) (size := x.size) (refs := x.refs) (word := x.word) (ov := .slice x.oa x.ol.length x.oc) (at_ := x.at_) (end_ := x.end_) (bz := bz) r rest x.wa x.wc (by omega) (by omega) hv (by omega) (by omega) ht).wide (is := [0, 0, 1, 1]) rfl).post ?_
    rcases h.d01 r (by omega) with h00 | h11
    · rw [hv] at h00
      injection h00 with h00
      subst h00
      rintro u l ⟨_, ⟨rfl, (⟨hpos, _⟩ | ⟨_, rfl⟩)⟩, rfl⟩
      · exact absurd hpos (by decide)
      · refine ⟨_, ⟨x, sts, wds, mv, tv + 1, C, D, .stay hj h (.inr rfl) (.inl ⟨hf, r, rest, hw0, hv⟩), rfl, rfl⟩, fun H hl => ?_⟩
        rw [e]
        exact hl.pick (is := [0, 0, 2, 0, 0, 0, 0, 0, 0, 0, 0, 0, 0, 0, 0]) rfl
    · rw [hv] at h11
      injection h11 with h11
      subst h11
      rintro u l ⟨_, ⟨rfl, (⟨_, xa', xc', rfl⟩ | ⟨hn, _⟩)⟩, rfl⟩
      · refine ⟨_, ⟨{ x with wa := xa', wl := rest, wc := xc' }, sts, wds, mv, tv + 1, C, D, .lt (h.ready_wait hj hf hw0 hv xa' xc') (.inr rfl) rfl (Phi_lt hj ?_) (by omega), rfl, rfl⟩, fun H hl => hl.pick (is := [0, 0, 2, 0, 0, 0, 0, 0, 0, 0, 0, 0, 0, 0, 0]) rfl⟩
        rw [phi_R hf, hw0]
        refine Nat.lt_of_le_of_lt (Nat.le_of_eq (phi_R hf)) ?_
        show rest.length + 3 + x.ol.length + 2 * szA ws x.ol + (nR + 5) < rest.length + 1 + 3 + x.ol.length + 2 * szA ws x.ol + (nR + 5)
        omega
      · exact absurd (by decide) hn
theorem Step_any (F : SF n T w nR ws st os ms rs fs) (h : SI n T w nR ws os ms xs sts wds mv C D Q A Z) (hj : xs[j]? = some x) (hl : xs.length ≤ 64) (ht : In64 (tv + 1)) (hP : C + D + PhiI T w nR ws os ms xs C D ≤ 1000000000) :
    Does Tryz.prog x.fn [ptr x.c 0] (wkL ps x ++ shZ ps pf p bw bs pm bm bst bf n T w nR pw bw2 pz bz nW wc wa (partsI T (szL (lvs ms os)) : Nat) mv tv ws st ms rs fs sts wds) (StepPost ps pf p bw bs pm bm bst bf n T w nR pw bw2 pz bz nW wc wa tv ws st os ms rs fs sts xs C D j x) := by
  rcases (h.wk j x hj).fns with hf | hf | hf | hf | hf | hf | hf | hf | hf
  · have := Step_claim (ps := ps) (pf := pf) (p := p) (bw := bw) (bs := bs) (pm := pm) (bm := bm) (bst := bst) (bf := bf) (pw := pw) (bw2 := bw2) (pz := pz) (bz := bz) (nW := nW) (wc := wc) (wa := wa) F h hj hl ht hP hf
    rw [hf]; exact this
  · have := Step_ready (ps := ps) (pf := pf) (p := p) (bw := bw) (bs := bs) (pm := pm) (bm := bm) (bst := bst) (bf := bf) (pw := pw) (bw2 := bw2) (pz := pz) (bz := bz) (nW := nW) (wc := wc) (wa := wa) F h hj hl ht hf
    rw [hf]; exact this
  · have := Step_object (ps := ps) (pf := pf) (p := p) (bw := bw) (bs := bs) (pm := pm) (bm := bm) (bst := bst) (bf := bf) (pw := pw) (bw2 := bw2) (pz := pz) (bz := bz) (nW := nW) (wc := wc) (wa := wa) F h hj hl ht hf x.fn
    rw [hf]; exact this
  · have := Step_fetch (ps := ps) (pf := pf) (p := p) (bw := bw) (bs := bs) (pm := pm) (bm := bm) (bst := bst) (bf := bf) (pw := pw) (bw2 := bw2) (pz := pz) (bz := bz) (nW := nW) (wc := wc) (wa := wa) F h hj hl ht hf
    rw [hf]; exact this
  · have := Step_lay (ps := ps) (pf := pf) (p := p) (bw := bw) (bs := bs) (pm := pm) (bm := bm) (bst := bst) (bf := bf) (pw := pw) (bw2 := bw2) (pz := pz) (bz := bz) (nW := nW) (wc := wc) (wa := wa) F h hj hl ht hf
    rw [hf]; exact this
  · have := Step_all (ps := ps) (pf := pf) (p := p) (bw := bw) (bs := bs) (pm := pm) (bm := bm) (bst := bst) (bf := bf) (pw := pw) (bw2 := bw2) (pz := pz) (bz := bz) (nW := nW) (wc := wc) (wa := wa) F h hj hl ht hf
    rw [hf]; exact this
  · have := Step_part (ps := ps) (pf := pf) (p := p) (bw := bw) (bs := bs) (pm := pm) (bm := bm) (bst := bst) (bf := bf) (pw := pw) (bw2 := bw2) (pz := pz) (bz := bz) (nW := nW) (wc := wc) (wa := wa) F h hj hl ht hP hf
    rw [hf]; exact this
  · have := Step_clear (ps := ps) (pf := pf) (p := p) (bw := bw) (bs := bs) (pm := pm) (bm := bm) (bst := bst) (bf := bf) (pw := pw) (bw2 := bw2) (pz := pz) (bz := bz) (nW := nW) (wc := wc) (wa := wa) F h hj hl ht hP hf
    rw [hf]; exact this
  · have := Step_rest (ps := ps) (pf := pf) (p := p) (bw := bw) (bs := bs) (pm := pm) (bm := bm) (bst := bst) (bf := bf) (pw := pw) (bw2 := bw2) (pz := pz) (bz := bz) (nW := nW) (wc := wc) (wa := wa) F h hj hl ht hf
    rw [hf]; exact this
theorem set_sameV {α : Type} {l : List α} {i : Nat} {v : α} (h : l[i]? = some v) : l.set i v = l := by
  obtain ⟨h1, h2⟩ := List.getElem?_eq_some_iff.1 h
  rw [← h2]; exact List.set_getElem_self h1
abbrev sldS (ps pf p bw bs pm bm bst bf n T w nR pw bw2 pz bz : Nat) (ws : List Int) (st : List Bool) (ms : List Nat) (rs : List RG) (fs : List Int) (wa : Option Addr) (wc : Nat) (S : Nat) (sts wds : List Int) (xs : List WX) (mv tv : Int) : List HP :=
  sldZ ps pf p bw bs pm bm bst bf n T w nR pw bw2 pz bz ws st ms rs fs wds sts wa wc xs (partsI T S : Nat) mv tv
set_option maxHeartbeats 8000000 in
theorem Step_spec (F : SF n T w nR ws st os ms rs fs) (h : SI n T w nR ws os ms xs sts wds mv C D Q A Z) (hj : xs[j]? = some x) (hl : xs.length ≤ 64) (ht : In64 (tv + 1)) (hP : C + D + PhiI T w nR ws os ms xs C D ≤ 1000000000) (hno : ¬ OverP sts nR (partsI T (szL (lvs ms os)) : Nat)) :
    Does Tryz.prog 37 [ptr ps 0, .int .i64 j] (sldS ps pf p bw bs pm bm bst bf n T w nR pw bw2 pz bz ws st ms rs fs wa wc (szL (lvs ms os)) sts wds xs mv tv)
    (fun v l => ∃ (x' : WX) (sts' wds' : List Int) (mv' tv' : Int) (C' D' : Nat), StepR n T w nR ws os ms xs sts tv C D j x x' sts' wds' mv' tv' C' D' ∧ v = .int .i64 0 ∧
      l = sldS ps pf p bw bs pm bm bst bf n T w nR pw bw2 pz bz ws st ms rs fs wa wc (szL (lvs ms os)) sts' wds' (xs.set j x') mv' tv') := by
  have hjl := (List.getElem?_eq_some_iff.1 hj).1
  have hsl := h.sl
  have hnR := F.nRT
  have htn := F.h.tn
  have hn6 := F.n6
  refine Does.of tiok Tryz.func37 (by kernel_rfl) rfl Tryz.ntmps37 rfl ?_
  intro W fr
  refine J_row (i := 1) rfl fun hr => ?_
  have hRr : Reads (row 168 1 wa xs.length wc (wkP xs)) 1 xs.length wa wc (wkP xs) := Reads.row hr.1 hr.2.1
  refine J_fact _ (fun w hs => hRr.some (by omega) hs (by simp)) ?_
  rintro ⟨b2, o2, rfl⟩
  repeat' (first | refine Wka ?_ | intro _ | apply And.intro)
  refine JO_l (OL_call [0, 0, 0, 0, 0, 0, 0, 0, 0, 0, 0, 0, 0, 0] rfl rfl rfl (Over_spec hsl (by omega)) rfl) rfl rfl ?_
  rintro _ _ ⟨_, ⟨t, ht2, rfl, rfl⟩, rfl⟩
  obtain rfl : t = false := by
    cases t with
    | false => rfl
    | true => exact absurd (ht2.1 rfl) hno
  repeat' (first | refine Wka ?_ | intro _ | apply And.intro)
  refine JO_val (OV_idx (off := o2 + j) rfl rfl rfl rfl (by omega) (by omega) (by simp)) rfl rfl ?_
  refine JO_q (OQ_read (i := j) (v := ptr x.c 0) hRr (by simp) rfl rfl (by omega) (by simp [hj])) rfl rfl ?_
  refine JO_hp (l' := wkL ps x ++ shZ ps pf p bw bs pm bm bst bf n T w nR pw bw2 pz bz xs.length wc (some ⟨b2, o2, none⟩) (partsI T (szL (lvs ms os)) : Nat) mv tv ws st ms rs fs sts wds ++ [bigM (wkH ps) (xs.eraseIdx j), row 168 1 (some ⟨b2, o2, none⟩) xs.length wc (wkP xs)]) (fun H hl => ?_) ?_
  · have h1 := bigM.out hj (hl.pick (l := _) (is := [2, 0, 0, 0, 0, 0, 0, 0, 0, 0, 0, 0, 0, 0]) rfl)
    exact (Stars.open (ps := wkL ps x) h1).pick (is := [0, 0, 0, 1, 2, 2, 5, 2, 2, 2, 2, 2, 2, 2, 2, 0, 0]) rfl
  repeat' (first | refine Wka ?_ | intro _ | apply And.intro)
  refine JO_l (OL_call [0, 0, 0, 0, 0, 0, 0, 0, 0, 0, 0, 0, 0, 0, 0] rfl rfl rfl (Step_any F h hj hl ht hP) rfl) rfl rfl ?_
  rintro _ _ ⟨_, ⟨x', sts', wds', mv', tv', C', D', hS, rfl, rfl⟩, rfl⟩
  repeat' (first | refine Wka ?_ | intro _ | apply And.intro)
  refine At_ret' rfl rfl (.tmp rfl .nil) rfl (fun H hl => ?_) ⟨x', sts', wds', mv', tv', C', D', hS, rfl, rfl⟩
  have h1 : Stars (wkH ps x' :: bigM (wkH ps) (xs.eraseIdx j) :: (row 168 1 (some ⟨b2, o2, none⟩) xs.length wc (wkP xs) :: shZ ps pf p bw bs pm bm bst bf n T w nR pw bw2 pz bz xs.length wc (some ⟨b2, o2, none⟩) (partsI T (szL (lvs ms os)) : Nat) mv' tv' ws st ms rs fs sts' wds')) H :=
    Stars.shut (ps := wkL ps x') (hl.pick (l := _) (is := [0, 0, 0, 12, 12, 0, 0, 0, 0, 0, 0, 0, 0, 0, 0, 0, 0]) rfl)
  have h2 := bigM.back hjl h1
  have e1 : (xs.set j x').length = xs.length := List.length_set ..
  have e2 : wkP (xs.set j x') = wkP xs := by
    unfold wkP
    rw [List.map_set, hS.2.2.2.1]
    apply set_sameV
    rw [List.getElem?_map, hj]; rfl
  show Stars (sldZ _ _ _ _ _ _ _ _ _ _ _ _ _ _ _ _ _ _ _ _ _ _ _ _ _ _ _ _ _ _) H
  unfold sldZ
  rw [e1, e2]
  exact h2.pick (is := [2, 1, 0, 0, 0, 1, 1, 1, 0, 0, 0, 0, 0, 0]) rfl
end ops
open Go.Sep
theorem ofF_tell {n T : Nat} {ws : List Int} (hn : ws.length = n) (hT : T ≤ n) : ∀ {f i : Nat} {st st' : List Bool}, ofF ws T f i st = some st' → T < i + f → i ≤ T → st.length = n → (i = 0 ∨ st[0]? = some true) →
    (∀ j : Nat, st[j]? = some true → j < i ∧ ∃ w, ws[j]? = some w ∧ wordB w = true ∧ j + 1 + (unN w).toNat ≤ i ∧ (j + 1 + (unN w).toNat = i ∨ st[j + 1 + (unN w).toNat]? = some true) ∧ ∀ q, j < q → q < j + 1 + (unN w).toNat → st[q]? ≠ some true) →
    (T = 0 ∨ st'[0]? = some true) ∧ (∀ j : Nat, st'[j]? = some true → ∃ w, ws[j]? = some w ∧ wordB w = true ∧ j + 1 + (unN w).toNat ≤ T ∧ (j + 1 + (unN w).toNat = T ∨ st'[j + 1 + (unN w).toNat]? = some true) ∧ ∀ q, j < q → q < j + 1 + (unN w).toNat → st'[q]? ≠ some true)
  | 0, i, st, st', h, hf, hi, hl, hz, hp => by omega
  | f + 1, i, st, st', h, hf, hi, hl, hz, hp => by
    by_cases hlt : i < T
    · obtain ⟨w, f', hf', hw, hb, hle, ho, _, _⟩ := ofF_step h hf hlt (by omega) (by omega)
      obtain rfl : f = f' := by omega
      have hset : (st.set i true)[i]? = some true := by rw [List.getElem?_set, if_pos rfl, if_pos (by omega)]
      have keep : ∀ q : Nat, st[q]? = some true → (st.set i true)[q]? = some true := fun q hq => by
        by_cases e : i = q
        · subst e; exact hset
        · rw [List.getElem?_set_ne e]; exact hq
      refine ofF_tell hn hT ho (by omega) hle (by simp [hl]) (.inr ?_) fun j hj => ?_
      · rcases hz with e | e
        · subst e; exact hset
        · exact keep 0 e
      rcases set_trueB hj with rfl | hj'
      · refine ⟨by omega, w, hw, hb, by omega, .inl rfl, fun q h1 h2 hq => ?_⟩
        rcases set_trueB hq with e | hq
        · omega
        · have := (hp q hq).1; omega
      · obtain ⟨h1, w', a1, a2, a3, a4, a5⟩ := hp j hj'
        refine ⟨by omega, w', a1, a2, by omega, .inr ?_, fun q h1 h2 hq => ?_⟩
        · rcases a4 with e | e
          · rw [e]; exact hset
          · exact keep _ e
        rcases set_trueB hq with e | hq
        · omega
        · exact a5 q h1 h2 hq
    · obtain rfl : i = T := by omega
      simp only [ofF, if_neg hlt] at h
      injection h with h
      subst h
      refine ⟨hz, fun j hj => ?_⟩
      obtain ⟨h1, w', a1, a2, a3, a4, a5⟩ := hp j hj
      exact ⟨w', a1, a2, a3, a4, a5⟩
theorem of_tell {T : Nat} {ws : List Int} {st : List Bool} (hz : ∀ w ∈ ws, In64 w) (hb : ws.length ≤ 65536) (hT : T ≤ ws.length) (h : ofF ws T (T + 1) 0 (List.replicate ws.length false) = some st) : HT ws.length T ws st := by
  obtain ⟨h1, h2⟩ := ofF_tell rfl hT h (by omega) (Nat.zero_le _) (by simp) (.inl rfl) fun j hj => by
    rw [List.getElem?_replicate] at hj
    split at hj <;> cases hj
  exact ⟨rfl, by have := ofF_len h; rw [this]; simp, hb, hT, hz, h1, h2⟩
open Go.Sep
theorem ofF_ch {ws : List Int} {T : Nat} : ∀ {os : List RO} {i f : Nat} {st : List Bool}, Ch ws i os T → T < i + f → ∃ st', ofF ws T f i st = some st'
  | [], i, f, st, h, hf => by
    obtain ⟨g, rfl⟩ : ∃ g, f = g + 1 := ⟨f - 1, by have : i = T := h; omega⟩
    have : ¬ i < T := by have : i = T := h; omega
    exact ⟨st, by simp only [ofF, this, if_false]⟩
  | o :: r, i, f, st, h, hf => by
    obtain ⟨h1, h2, h3, h4, h5⟩ := h
    have hle := h5.le
    obtain ⟨g, rfl⟩ : ∃ g, f = g + 1 := ⟨f - 1, by omega⟩
    obtain ⟨u0, u1, u2, u3, u4⟩ := packI_un h2
    obtain ⟨st', hst⟩ := ofF_ch (f := g) (st := st.set i true) h5 (by omega)
    refine ⟨st', ?_⟩
    have hlt : i < T := by omega
    simp only [ofF, hlt, if_true, h3, u1, u3, Int.toNat_natCast, true_and, hle]
    exact hst
section nw
variable {n T : Nat} {ws : List Int} {st : List Bool} {os : List RO} {ms : List Nat}
theorem slide_step (hc : Ch ws 0 os T) {os' : List RO} {q : Nat} {o : RO} (h : Ch (NWI T ws ms os) 0 os' (goI ms os q)) (ho : os[q]? = some o) (hl : lvB ms o = true) (wa : Option Addr) (wc : Nat) :
    Ch (NWI T ws ms os) 0 (os' ++ [⟨goI ms os q, o.k, o.p, fwL ms os o, wa, wc⟩]) (goI ms os (q + 1)) := by
  have hat := (hc.at ho).2
  have h1 := goI_succ (ms := ms) ho
  rw [hl, if_pos rfl] at h1
  have h2 := h.snoc (o := ⟨goI ms os q, o.k, o.p, fwL ms os o, wa, wc⟩) rfl (by dsimp only; rw [fwL_len]; exact hat.2.1) (by
    have := NWI_obj (T := T) (ws := ws) ho hl (t := 0) (by omega)
    dsimp only
    rw [fwL_len]
    rw [Nat.add_zero] at this
    rw [this]; rfl) (fun t ht => by
    dsimp only at ht ⊢
    rw [fwL_len] at ht
    have := NWI_obj (T := T) (ws := ws) ho hl (t := t + 1) (by omega)
    rw [show goI ms os q + 1 + t = goI ms os q + (t + 1) by omega, this]
    rfl)
  dsimp only at h2
  rw [fwL_len] at h2
  rw [show goI ms os (q + 1) = goI ms os q + 1 + o.ws.length by omega]
  exact h2
theorem goI_dead {q : Nat} {o : RO} (ho : os[q]? = some o) (hl : lvB ms o = false) : goI ms os (q + 1) = goI ms os q := by
  have h1 := goI_succ (ms := ms) ho
  rw [hl] at h1
  simpa using h1
theorem goI_all {ms : List Nat} {os : List RO} : goI ms os os.length = szL (lvs ms os) := by unfold goI; rw [List.take_length]
theorem NWI_ch (hc : Ch ws 0 os T) : ∃ os', Ch (NWI T ws ms os) 0 os' (szL (lvs ms os)) := by
  have : ∀ q, q ≤ os.length → ∃ os', Ch (NWI T ws ms os) 0 os' (goI ms os q) := by
    intro q
    induction q with
    | zero => intro _; exact ⟨[], rfl⟩
    | succ q ih =>
      intro hq
      obtain ⟨os', h⟩ := ih (by omega)
      have ho : os[q]? = some os[q] := List.getElem?_eq_getElem _
      cases hl : lvB ms os[q] with
      | true => exact ⟨_, slide_step hc h ho hl none 0⟩
      | false => exact ⟨os', by rw [goI_dead ho hl]; exact h⟩
  have := this os.length (Nat.le_refl _)
  rw [goI_all] at this
  exact this
theorem fwI_64 (h : HT n T ws st) (hc : Ch ws 0 os T) (z : Int) : In64 (fwI ms os z) := by
  have htn := h.tn
  have hnb := h.nb
  have hs := hc.sz
  unfold fwI
  split
  · rename_i j _
    have := goI_bd (ms := ms) (os := os) (q := j)
    unfold In64; omega
  · unfold In64; decide
theorem NWI_64 (h : HT n T ws st) (hc : Ch ws 0 os T) : ∀ y ∈ NWI T ws ms os, In64 y := by
  intro y hy
  unfold NWI at hy
  rcases List.mem_append.1 hy with hy | hy
  · obtain ⟨o, ho, hy⟩ := List.mem_flatMap.1 hy
    obtain ⟨j, hj⟩ := List.getElem?_of_mem (List.mem_filter.1 ho).1
    have hat := (hc.at hj).2
    unfold nwO at hy
    rcases List.mem_cons.1 hy with rfl | hy
    · exact (packI_un hat.2.1).1
    · unfold fwL at hy
      obtain ⟨t, ht, rfl⟩ := List.mem_map.1 hy
      have ht := List.mem_range.1 ht
      split
      · exact fwI_64 h hc _
      · rw [List.getD_eq_getElem?_getD, List.getElem?_eq_getElem ht]
        exact Ch.mem64 h hc (List.mem_of_getElem? hj) (List.getElem?_eq_getElem ht)
  · rcases List.mem_append.1 hy with hy | hy
    · rw [List.eq_of_mem_replicate hy]; unfold In64; decide
    · exact h.w64 y (List.mem_of_mem_drop hy)
end nw
section ops
variable {ps pf p bw bs pm bm bst bf n T w nR pw bw2 pz bz wc : Nat} {wa : Option Addr} {mv tv : Int} {ws : List Int} {st : List Bool} {os : List RO} {ms : List Nat} {rs : List RG} {fs wds sts : List Int} {xs : List WX} {C D : Nat} {Q A Z : Nat → Nat}
set_option maxHeartbeats 16000000 in
theorem Heap14_ok (F : SF n T w nR ws st os ms rs fs) (h1n : 1 ≤ n) (h : SI n T w nR ws os ms xs sts wds mv C D Q A Z) (ho : OverP sts nR (partsI T (szL (lvs ms os)) : Nat)) :
    Does Tryz.prog 38 [ptr ps 0] (sldS ps pf p bw bs pm bm bst bf n T w nR pw bw2 pz bz ws st ms rs fs wa wc (szL (lvs ms os)) sts wds xs mv tv)
    (fun v l => ∃ (p' bw' bs' : Nat) (st' : List Bool), HT n (szL (lvs ms os)) (NWI T ws ms os) st' ∧ v = .tuple #[ptr p' 0, .int .i64 0] ∧ l = heapL p' bw' bs' n (NWI T ws ms os) (szL (lvs ms os)) st' ++ sldS ps pf p bw bs pm bm bst bf n T w nR pw bw2 pz bz ws st ms rs fs wa wc (szL (lvs ms os)) sts wds xs mv tv) := by
  have hsl := h.sl
  have hnR := F.nRT
  have htn := F.h.tn
  have hn6 := F.n6
  have hsz := F.hsz
  obtain ⟨hwd, _⟩ := h.over F.hc F.hR F.hF.w1 F.h.wl htn ho
  have hNl := NWI_len (ms := ms) F.hc F.h.wl htn
  subst hwd
  refine Does.of tiok Tryz.func38 (by kernel_rfl) rfl Tryz.ntmps38 rfl ?_
  intro W fr
  repeat' (first | refine Wka ?_ | intro _ | apply And.intro)
  refine JO_l (OL_call [0, 0, 0, 0, 0, 0, 0, 0, 0, 0, 0, 0, 0, 0] rfl rfl rfl (Over_spec hsl (by omega)) rfl) rfl rfl ?_
  rintro _ _ ⟨_, ⟨t, ht2, rfl, rfl⟩, rfl⟩
  obtain rfl : t = true := ht2.2 ho
  repeat' (first | refine Wka ?_ | intro _ | apply And.intro)
  refine J_drawk [sdB ps pf p pw pz wa xs.length wc (partsI T (szL (lvs ms os)) : Nat) mv tv] (fun H hl => hl.pick (is := [0]) rfl) [0, 0, 0, 5, 2, 0, 0, 0, 5, 2, 2, 0, 0, 0, 0] [0, 1, 2, 3, 5, 6, 7, 8, 4, 9, 10, 11, 12, 13, 14] (by kernel_rfl) (by kernel_rfl) ?_
  repeat' (first | refine Wkd ?_ | intro _ | apply And.intro)
  refine JX_lk rfl rfl (OL_call [4] rfl rfl rfl (CellsWords_z (p := pw) (bw := bw2) (ws := NWI T ws ms os) (by omega)) rfl) rfl rfl ?_ ?_
  · rintro _ _ ⟨_, ⟨_, _, _, rfl, rfl⟩, rfl⟩ H hl
    exact hl.pick (is := [2]) rfl
  rintro _ _ ⟨_, ⟨a1, cap1, hn1, rfl, rfl⟩, rfl⟩ _
  refine JX_lk rfl rfl (OL_call [9, 6, 6, 6, 6, 6, 6, 6, 6] rfl rfl rfl (FwdTop_spec F.hF) rfl) rfl rfl ?_ ?_
  · rintro _ _ ⟨_, ⟨rfl, rfl⟩, rfl⟩ H hl
    exact hl.pick (is := [11]) rfl
  rintro _ _ ⟨_, ⟨rfl, rfl⟩, rfl⟩ _
  have hR1 : Reads (rowz 3 1 a1 (NWI T ws ms os).length cap1 (intsV (NWI T ws ms os))) 1 (NWI T ws ms os).length a1 cap1 (intsV (NWI T ws ms os)) := Reads.rowz (by simp [intsV]) hn1
  have hOf := Of_spec hR1 (NWI_64 F.h F.hc) (szL (lvs ms os)) (by omega) (by omega) (by omega)
  obtain ⟨os', hos'⟩ := NWI_ch (ms := ms) F.hc
  obtain ⟨st', hst'⟩ := ofF_ch (f := szL (lvs ms os) + 1) (st := List.replicate (NWI T ws ms os).length false) hos' (by omega)
  have hHT := of_tell (NWI_64 F.h F.hc) (by omega) (by omega) hst'
  rw [hst'] at hOf
  refine JX_lk rfl rfl (OL_call [9] rfl rfl rfl hOf rfl) rfl rfl ?_ ?_
  · rintro _ _ ⟨_, ⟨_, _, _, rfl, rfl⟩, rfl⟩ H hl
    exact hl.pick (is := [14]) rfl
  rintro _ _ ⟨_, ⟨p', bw', bs', rfl, rfl⟩, rfl⟩ _
  repeat' (first | refine Wkd ?_ | intro _ | apply And.intro)
  repeat' (first | refine Wka ?_ | intro _ | apply And.intro)
  rw [hNl] at hHT
  refine At_ret' rfl rfl (.tmp rfl (.tmp rfl .nil)) rfl (fun H hl => ?_) ⟨p', bw', bs', st', hHT, rfl, rfl⟩
  rw [hNl] at hl
  exact hl.pick (is := [0, 0, 0, 11, 11, 11, 11, 10, 2, 2, 2, 1, 1, 1, 1, 1, 1]) rfl
end ops
open Go.Sep
def hsum (hs : List (Int × Nat × Int)) : Nat := (hs.map fun h => 1 + h.2.1).sum
theorem hsum_app {a b : List (Int × Nat × Int)} : hsum (a ++ b) = hsum a + hsum b := by unfold hsum; rw [List.map_append, List.sum_append]
def LGok (s : LG) : Prop := s.T = hsum s.hs ∧ ∀ q ∈ s.at_, ∃ (j : Nat) (h : Int × Nat × Int), s.hs[j]? = some h ∧ h.1 ≠ 15 ∧ q = (hsum (s.hs.take j) : Int)
theorem LGok.snoc {i : Nat} {s : LG} (h : LGok s) (x : Int × Nat × Int) : LGok ⟨i, s.T + 1 + x.2.1, s.at_, s.hs ++ [x]⟩ := by
  refine ⟨?_, fun q hq => ?_⟩
  · show s.T + 1 + x.2.1 = hsum (s.hs ++ [x])
    rw [hsum_app, h.1]
    show _ = hsum s.hs + (1 + x.2.1 + 0)
    omega
  · obtain ⟨j, y, h1, h2, h3⟩ := h.2 q hq
    have hl := (List.getElem?_eq_some_iff.1 h1).1
    refine ⟨j, y, ?_, h2, ?_⟩
    · show (s.hs ++ [x])[j]? = _
      rw [List.getElem?_append_left hl]; exact h1
    · show q = (hsum ((s.hs ++ [x]).take j) : Int)
      rw [List.take_append_of_le_length (by omega)]; exact h3
theorem LGok.step {s : LG} (h : LGok s) (y : ND) : LGok (stepG s y) := by
  have hf : LGok (fillG s y) := by
    unfold fillG
    split
    · exact h.snoc (15, (y.k % 2).toNat, 0)
    · exact h
  generalize hs1 : fillG s y = s1 at hf
  unfold stepG
  rw [show fillG s y = s1 from hs1]
  unfold nodeG
  have h1 := hf.snoc (i := s1.i + 1) (y.k % 15, lenG y, (y.es.length : Int))
  refine ⟨h1.1, fun q hq => ?_⟩
  dsimp only at hq
  rcases List.mem_append.1 hq with hq | hq
  · exact h1.2 q hq
  · rw [List.mem_singleton.1 hq]
    refine ⟨s1.hs.length, (y.k % 15, lenG y, (y.es.length : Int)), ?_, ?_, ?_⟩
    · show (s1.hs ++ [_])[s1.hs.length]? = _
      rw [List.getElem?_append_right (Nat.le_refl _), Nat.sub_self]; rfl
    · show y.k % 15 ≠ 15
      have := Int.emod_lt_of_pos y.k (show (0 : Int) < 15 by decide)
      omega
    · show (s1.T : Int) = (hsum ((s1.hs ++ [_]).take s1.hs.length) : Int)
      rw [List.take_append_of_le_length (Nat.le_refl _), List.take_length, ← hf.1]
theorem layG_ok (ns : List ND) : LGok (layG ns) := by
  unfold layG
  have h0 : LGok ⟨0, 0, [], []⟩ := ⟨rfl, fun q hq => by cases hq⟩
  generalize (⟨0, 0, [], []⟩ : LG) = s at h0
  induction ns generalizing s with
  | nil => exact h0
  | cons y r ih => exact ih _ (h0.step y)
theorem Ch.hsum {ws : List Int} : ∀ {os : List RO} {i T j : Nat} {o : RO}, Ch ws i os T → os[j]? = some o → o.i = i + Go.Proofs.YtfmkjbmogfhpbaaGreatDoor.hsum ((os.map hdO).take j)
  | [], _, _, _, _, _, hj => by cases hj
  | x :: r, i, T, 0, o, h, hj => by
    injection hj with hj; subst hj
    exact h.1
  | x :: r, i, T, j + 1, o, h, hj => by
    have h1 := Ch.hsum h.2.2.2.2 (j := j) hj
    rw [h1, List.map_cons, List.take_succ_cons]
    show _ = i + (1 + x.ws.length + (((r.map hdO).take j).map fun h => 1 + h.2.1).sum)
    unfold Go.Proofs.YtfmkjbmogfhpbaaGreatDoor.hsum
    omega
theorem BInv.nodes {n T : Nat} {ws : List Int} {st : List Bool} {os : List RO} {ns : List ND} (h : BInv n T ws st os (layG ns).hs) {q : Int} (hq : q ∈ (layG ns).at_) : ∃ (j : Nat) (o : RO), os[j]? = some o ∧ (o.i : Int) = q ∧ o.k ≠ 15 := by
  obtain ⟨j, y, h1, h2, h3⟩ := (layG_ok ns).2 q hq
  rw [← h.hd] at h1 h3
  rw [List.getElem?_map] at h1
  cases ho : os[j]? with
  | none => rw [ho] at h1; cases h1
  | some o =>
    rw [ho] at h1
    injection h1 with h1
    refine ⟨j, o, ho, ?_, ?_⟩
    · rw [h3, h.ch.hsum ho, Nat.zero_add]
    · have : y.1 = o.k := by rw [← h1]
      rw [← this]; exact h2
theorem BInv.root {n T : Nat} {ws : List Int} {st : List Bool} {os : List RO} {ns : List ND} (h : BInv n T ws st os (layG ns).hs) (z : Int) : plcI (layG ns).at_ z = 0 ∨ ∃ (j : Nat) (o : RO), os[j]? = some o ∧ plcI (layG ns).at_ z = (o.i : Int) + 1 ∧ o.k ≠ 15 := by
  unfold plcI
  split
  · exact .inl rfl
  · rename_i hne
    have m0 : 0 ≤ z % (((layG ns).at_.length : Int) + 1) := Int.emod_nonneg _ (by omega)
    have m1 : z % (((layG ns).at_.length : Int) + 1) < ((layG ns).at_.length : Int) + 1 := Int.emod_lt_of_pos _ (by omega)
    obtain ⟨k, hk⟩ := Int.eq_ofNat_of_zero_le m0
    rw [hk] at hne m1 ⊢
    have hkl : k < (layG ns).at_.length := by omega
    rw [Int.toNat_natCast, List.getD_eq_getElem?_getD, List.getElem?_eq_getElem hkl]
    obtain ⟨j, o, h1, h2, h3⟩ := h.nodes (List.getElem_mem hkl)
    exact .inr ⟨j, o, h1, by rw [h2]; exact Int.add_comm _ _, h3⟩
open Go.Sep
theorem leads_obj {n T : Nat} {ws : List Int} {st : List Bool} {os : List RO} (h : HT n T ws st) (hc : Ch ws 0 os T) (hr : RefsOk ws st) {j k : Nat} {o : RO} {y : Int} (ho : os[j]? = some o) (hk : (k : Int) < o.p) (hy : o.ws[k]? = some y) : y = 0 ∨ ∃ (j' : Nat) (o' : RO), os[j']? = some o' ∧ y = (o'.i : Int) + 1 ∧ o'.k ≠ 15 := by
  have hl := (refs_iff h hc).1 hr o (List.mem_of_getElem? ho) k y hk hy
  have h2 := of_decide_eq_true hl
  rcases h2 with h0 | ⟨h1, hs, h15⟩
  · exact .inl h0
  · right
    have hst : (0 = T ∨ st[0]? = some true) := h.zero.imp Eq.symm id
    obtain ⟨o', ho', he⟩ := Ch.find h hc hst (y - 1).toNat (Nat.zero_le _) hs
    obtain ⟨j', hj'⟩ := List.getElem?_of_mem ho'
    refine ⟨j', o', hj', by omega, ?_⟩
    have hat := (hc.at hj').2
    rw [← he, List.getD_eq_getElem?_getD, hat.2.2.1, Option.getD_some, (packI_un hat.2.1).2.2.1] at h15
    exact h15
theorem rch_live {n T : Nat} {ws : List Int} {st : List Bool} {os : List RO} {rts : List Int} (h : HT n T ws st) (hc : Ch ws 0 os T) (hr : RefsOk ws st) (hrt : ∀ z ∈ rts, z = 0 ∨ ∃ (j : Nat) (o : RO), os[j]? = some o ∧ z = (o.i : Int) + 1 ∧ o.k ≠ 15) {j : Nat} (hj : Rch os rts j) {o : RO} (ho : os[j]? = some o) : o.k ≠ 15 := by
  cases hj with
  | root hz hj he =>
    rw [ho] at hj; injection hj with hj; subst hj
    rcases hrt _ hz with h0 | ⟨j2, o2, hj2, he2, h15⟩
    · omega
    · have := Ch.one hc hj2 ho (by omega)
      subst this
      rw [ho] at hj2; injection hj2 with hj2; rw [hj2]; exact h15
  | ref _ hi hk hy hj he =>
    rw [ho] at hj; injection hj with hj; subst hj
    rcases leads_obj h hc hr hi hk hy with h0 | ⟨j2, o2, hj2, he2, h15⟩
    · omega
    · have := Ch.one hc hj2 ho (by omega)
      subst this
      rw [ho] at hj2; injection hj2 with hj2; rw [hj2]; exact h15
def RMk (os : List RO) (rts : List Int) (ms : List Nat) : Prop := ∀ (j : Nat) (o : RO), os[j]? = some o → (lvB ms o = true ↔ Rch os rts j)
theorem RMk.right {n T : Nat} {ws : List Int} {st : List Bool} {os : List RO} {rts : List Int} {ms : List Nat} (h : HT n T ws st) (hc : Ch ws 0 os T) (hr : RefsOk ws st) (hm : RMk os rts ms) : RightP ms os := by
  intro j o ho hl k y hk hy
  rcases leads_obj h hc hr ho hk hy with h0 | ⟨j2, o2, hj2, he2, h15⟩
  · exact .inl h0
  · exact .inr ⟨j2, o2, hj2, (hm j2 o2 hj2).2 (.ref ((hm j o ho).1 hl) ho hk hy hj2 he2), by omega⟩
theorem RMk.roots {n T : Nat} {ws : List Int} {st : List Bool} {os : List RO} {rts : List Int} {ms : List Nat} (hrt : ∀ z ∈ rts, z = 0 ∨ ∃ (j : Nat) (o : RO), os[j]? = some o ∧ z = (o.i : Int) + 1 ∧ o.k ≠ 15) (hm : RMk os rts ms) : ∀ z ∈ rts, z = 0 ∨ LiveAt ms os (z - 1) := by
  intro z hz
  rcases hrt z hz with h0 | ⟨j, o, hj, he, h15⟩
  · exact .inl h0
  · exact .inr ⟨j, o, hj, (hm j o hj).2 (.root hz hj he), by omega⟩
end Go.Proofs.YtfmkjbmogfhpbaaGreatDoor
namespace Go.Proofs.YtfmkjbmogfhpbaaGreatDoor.Mk
open Go.Sep
section end_
variable {n W rm rS part T : Nat} {ws : List Int} {st : List Bool} {os : List RO} {rts : List Int} {s : MS}
theorem OneO.of (hc : Ch ws 0 os T) : OneO os := fun j j' o o' h1 h2 h3 => by
  have := Ch.one hc h1 h2 h3
  subst this
  rw [h1] at h2; injection h2
theorem over_marks (h : MInv n W rm rS part os rts s) (h1 : 1 ≤ W) (hO : Over s) (hh : HT n T ws st) (hc : Ch ws 0 os T) (hr : RefsOk ws st)
    (hrt : ∀ z ∈ rts, z = 0 ∨ ∃ (j : Nat) (o : RO), os[j]? = some o ∧ z = (o.i : Int) + 1 ∧ o.k ≠ 15) : RMk os rts s.ms := by
  have hone := OneO.of hc
  have hes : ∀ (j : Nat) (x : WK), s.X[j]? = some x → 9 ≤ es x := fun j x hx => by
    have := hO j x hx
    rw [es_of (by omega) (by omega)]; exact this
  have hP : ∀ (d : Nat) (q : DQ), s.D[d]? = some q → q.P = [] := fun d q hq => by
    have hdl := h.dl
    have hxl := h.xl
    have hd : d < s.X.length := by have := (List.getElem?_eq_some_iff.1 hq).1; omega
    exact h.em _ _ _ (List.getElem?_eq_getElem hd) hq (by have := hO _ _ (List.getElem?_eq_getElem hd); omega)
  have hS : s.sP = [] := by
    apply Classical.byContradiction
    intro hne
    obtain ⟨j, x, hx, h7⟩ := h.sp hne
    have := hO _ _ hx
    omega
  have hW : ∀ u, ¬ InW s u := by
    rintro u (⟨d, q, hq, hu⟩ | hu | ⟨j, x, hx, hu⟩)
    · rw [hP d q hq] at hu; cases hu
    · rw [hS] at hu; cases hu
    · have h9 := hO _ _ hx
      have hlo := (h.wk _ _ hx).lo
      have : x.cl = .none ∧ x.push = 0 := by
        unfold WLoc at hlo
        split at hlo <;> first | omega | exact hlo | exact ⟨hlo.1, hlo.2.1⟩ | exact hlo.elim
      rw [hand_none this.1 this.2] at hu
      cases hu
  have hT : ∀ a f, ¬ Covd (InT s) a f := by
    rintro a f ⟨t, ht, _, h2, h3⟩
    rcases ht with ⟨j, x, hx, rfl⟩ | ⟨u, hu, _⟩
    · have := ((h.wk _ _ hx).x2 (by omega)).1
      have := hes _ _ hx
      omega
    · exact hW u hu
  have key : ∀ {j : Nat}, Rch os rts j → ∀ o, os[j]? = some o → bitB s.ms o.i = true := by
    intro j hj
    induction hj with
    | @root z j o hz hj he =>
      intro o2 ho2
      rw [hj] at ho2; injection ho2 with ho2; subst ho2
      obtain ⟨i, hi⟩ := List.getElem?_of_mem hz
      rcases h.rc i z hi with h0 | h0 | ⟨k, x, hx, g1, g2⟩
      · rcases h0 with h0 | ⟨j2, o2, k1, k2, k3⟩
        · omega
        · have := hone _ _ _ _ hj k1 (by omega)
          rw [this]; exact k3
      · have hx : 0 < s.X.length := by rw [h.xl]; omega
        have := (h.wk _ _ (List.getElem?_eq_getElem hx)).nr (by have := hes _ _ (List.getElem?_eq_getElem hx); omega)
        have := (List.getElem?_eq_some_iff.1 hi).1
        omega
      · have := (h.wk _ _ hx).a3.1 (by omega)
        have := hes _ _ hx
        omega
    | @ref i k j o o' y hi ho hk hy hj he ih =>
      intro o2 ho2
      rw [hj] at ho2; injection ho2 with ho2; subst ho2
      rcases h.cv i o k y ho (ih o ho) hk hy with h0 | h0
      · rcases h0 with h0 | ⟨j2, o2, k1, k2, k3⟩
        · omega
        · have := hone _ _ _ _ hj k1 (by omega)
          rw [this]; exact k3
      · exact absurd h0 (hT _ _)
  intro j o ho
  unfold lvB
  rw [Bool.and_eq_true, decide_eq_true_iff]
  constructor
  · rintro ⟨_, hb⟩
    obtain ⟨j2, o2, k1, k2, k3⟩ := h.rd _ hb
    have := Ch.one hc k1 ho k2
    rw [← this]; exact k3
  · intro hj
    exact ⟨rch_live hh hc hr hrt hj ho, key hj o ho⟩
end end_
abbrev wk0 (k : Nat) : WK := ⟨k, 0, 0, 0, ⟨0, 0, 0⟩, false, 0, 13, .none, 0, 0, 0⟩
abbrev dq0 (rm k : Nat) : DQ := ⟨k, List.replicate (rm + 2) 0, [], 0⟩
abbrev ms0 (n W rm rS : Nat) : MS := ⟨(List.range W).map wk0, (List.range W).map (dq0 rm), List.replicate ((n + 63) / 64) 0, 0, List.replicate (rS + 2) 0, [], none, 0, 0⟩
section begin
variable {n W rm rS part T : Nat} {ws : List Int} {st : List Bool} {os : List RO} {rts : List Int}
theorem range_at {α : Type} {f : Nat → α} {W j : Nat} {x : α} (h : ((List.range W).map f)[j]? = some x) : j < W ∧ x = f j := by
  rw [List.getElem?_map] at h
  obtain ⟨k, hk, rfl⟩ := Option.map_eq_some_iff.1 h
  obtain ⟨h1, h2⟩ := List.getElem?_eq_some_iff.1 hk
  rw [List.getElem_range] at h2
  subst h2
  exact ⟨by simpa using h1, rfl⟩
theorem dcs0 {d : Nat} : dcs W d ((List.range W).map wk0) = (List.range W).map offD := by
  unfold dcs
  refine List.map_congr_left fun k hk => ?_
  unfold atD
  split
  · rename_i x hx
    obtain ⟨_, rfl⟩ := range_at hx
    rfl
  · rfl
theorem scs0 : scs ((List.range W).map wk0) = (List.range W).map offS := by
  unfold scs
  rw [List.map_map]
  rfl
theorem rep_get {k i : Nat} (h : i < k) : (List.replicate k (0 : Int))[i]? = some 0 := by rw [List.getElem?_replicate, if_pos h]
theorem MInv.new (hn : n ≤ 65536) (h1 : 1 ≤ W) (hrm : rm ≤ 1024) (hrS : rS ≤ 65534) : MInv n W rm rS part os rts (ms0 n W rm rS) := by
  refine ⟨by simp, fun j x hj => ?_, by simp, fun j x hj => ?_, fun d q hq => ?_, ?_, MI.new hn, fun j x hj => ?_, fun j x q hj hq h6 => ?_, fun u hu => ?_, fun j o f y hj hb _ _ => ?_, fun i y hi => .inr (.inl (by show 0 * part ≤ i; omega)), fun i hi => ?_, fun h => absurd rfl h, fun j x y hj hy => ?_, Nat.le_refl _, Nat.le_refl _⟩
  · obtain ⟨_, rfl⟩ := range_at hj; rfl
  · obtain ⟨_, rfl⟩ := range_at hj; rfl
  · obtain ⟨hd, rfl⟩ := range_at hq
    refine ⟨0, ?_⟩
    show Dq.DHI W rm (dcs W d ((List.range W).map wk0)) 0 bigN 0 (List.replicate (rm + 2) 0) [] 0
    rw [dcs0]
    refine ⟨hrm, h1, by simp, fun j x hj => ?_, by simp, rep_get (by omega), Nat.le_refl _, by simp, fun i hi => absurd hi (Nat.not_lt_zero _), (fun y hy => by cases hy), fun x hx => ?_, fun j x _ hx ho => ?_⟩
    · obtain ⟨_, rfl⟩ := range_at hj; rfl
    · obtain ⟨_, rfl⟩ := range_at hx
      exact Dq.OwnD.off rfl rfl (rep_get (by omega))
    · obtain ⟨_, rfl⟩ := range_at hx
      cases ho
  · show Sp.SHI W rS (scs ((List.range W).map wk0)) (List.replicate (rS + 2) 0) [] none
    rw [scs0]
    refine ⟨by simp, fun j x hj => ?_, fun j x hj ho => ?_, (fun j hj => by cases hj), by simp, hrS, Nat.zero_le _, rep_get (by omega), fun i hi => absurd hi (Nat.not_lt_zero _), rep_get (by omega)⟩
    · obtain ⟨_, rfl⟩ := range_at hj; rfl
    · obtain ⟨_, rfl⟩ := range_at hj
      cases ho
  · obtain ⟨_, rfl⟩ := range_at hj
    exact ⟨Nat.le_refl _, Nat.zero_le _, ⟨fun e => absurd (show 0 < 0 from e) (by decide), fun e => absurd (show 0 = 1 from e) (by decide)⟩, ⟨by show 0 < 65536; decide, Nat.le_refl _, Nat.zero_le _⟩, fun e => absurd (show 0 < 0 from e) (by decide), fun e => absurd (show 4 ≤ 0 from e) (by decide), ⟨rfl, rfl⟩⟩
  · obtain ⟨_, rfl⟩ := range_at hq; rfl
  · rcases hu with ⟨d, q, hq, hu⟩ | hu | ⟨j, x, hx, hu⟩
    · obtain ⟨_, rfl⟩ := range_at hq; cases hu
    · cases hu
    · obtain ⟨_, rfl⟩ := range_at hx; cases hu
  · rw [show bitB (ms0 n W rm rS).ms o.i = false from bitB_zero] at hb; cases hb
  · rw [show bitB (ms0 n W rm rS).ms i = false from bitB_zero] at hi; cases hi
  · obtain ⟨_, rfl⟩ := range_at hj; cases hy
theorem phi_new (hc : Ch ws 0 os T) (hR : rts.length ≤ 14) (hW : W ≤ 7) : Phi os rts.length part (ms0 n W rm rS) ≤ 200 * T + 112 := by
  have h0 := hc.sz
  have h1 : phiO os (List.replicate ((n + 63) / 64) 0) ≤ 200 * szL os := by
    have : ∀ l : List RO, (∀ o ∈ l, o.p ≤ o.ws.length) → phiO l (List.replicate ((n + 63) / 64) 0) ≤ 200 * szL l := by
      intro l
      induction l with
      | nil => intro _; exact Nat.zero_le _
      | cons o l ih =>
        intro hl
        have g1 := ih fun u hu => hl u (.tail _ hu)
        have g2 := hl o (.head _)
        unfold phiO szL at g1 ⊢
        simp only [List.map_cons, List.sum_cons]
        rw [bitB_zero]
        show (if o.p = 0 then 0 else 200 * o.p.toNat + 30) + _ ≤ _
        split <;> omega
    refine this _ fun o ho => ?_
    obtain ⟨j, hj⟩ := List.getElem?_of_mem ho
    have := (hc.at hj).2.2.1
    unfold goodB at this
    simp at this
    omega
  have h2 : (((List.range W).map (dq0 rm)).map fun q : DQ => phiP 12 q.P).sum = 0 := by
    rw [List.map_map]
    have : ∀ l : List Nat, (l.map ((fun q : DQ => phiP 12 q.P) ∘ dq0 rm)).sum = 0 := by
      intro l
      induction l with
      | nil => rfl
      | cons a l ih => simp only [List.map_cons, List.sum_cons, ih]; rfl
    exact this _
  have h3 : (((List.range W).map wk0).map phi).sum = 10 * W := by
    rw [List.map_map]
    have : ∀ l : List Nat, (l.map (phi ∘ wk0)).sum = 10 * l.length := by
      intro l
      induction l with
      | nil => rfl
      | cons a l ih =>
        simp only [List.map_cons, List.sum_cons, ih, List.length_cons]
        show 10 + 10 * l.length = _
        omega
    rw [this, List.length_range]
  unfold Phi
  dsimp only
  rw [h2, h3]
  have h4 : phiP 10 [] = 0 := rfl
  rw [h4, Nat.zero_mul]
  omega
end begin
end Go.Proofs.YtfmkjbmogfhpbaaGreatDoor.Mk
set_option maxRecDepth 8000
namespace Go.Proofs.YtfmkjbmogfhpbaaGreatDoor.Mk
open Go.Sep
theorem Does.use {P : Program} {f : FuncId} {args : List Value} {pre L r : List HP} {post post' : Value → List HP → Prop} (h : Does P f args pre post) (hL : ∀ H, Stars L H → Stars (pre ++ r) H)
    (k : ∀ v l, post v l → ∃ l', post' v l' ∧ ∀ H, Stars (l ++ r) H → Stars l' H) : Does P f args L post' :=
  ⟨h.1, fun W fr w hs => (h.2 W (r ++ fr) w (by rw [← List.append_assoc]; exact hs.lift hL)).mono fun e w' ⟨v, l, he, hp, hs'⟩ => by
    obtain ⟨l2, hp2, hk⟩ := k v l hp
    exact ⟨v, l2, he, hp2, (show Sat W ((l ++ r) ++ fr) w' by rw [List.append_assoc]; exact hs').lift hk⟩⟩
structure EV where
  pM : Nat
  p : Nat
  bw : Nat
  bs : Nat
  n : Nat
  T : Nat
  ws : List Int
  st : List Bool
  pk : Nat
  bm : Nat
  pr : Nat
  rc : Nat
  rw : Nat
  ar : Option Addr
  cr : Nat
  rts : List Int
  part : Nat
  pp : Nat
  qpc : Nat
  qbw : Nat
  rS : Nat
  po : Nat
  qc : Nat
  qw : Nat
  qi : Nat
  da : Option Addr
  dc : Nat
  wa : Option Addr
  wc : Nat
  K : Nat
  W : Nat
  rm : Nat
  dp : Nat → Nat
  dpc : Nat → Nat
  dbw : Nat → Nat
  wp : Nat → Nat
  os : List RO
structure EOk (E : EV) : Prop where
  h : HT E.n E.T E.ws E.st
  hc : Ch E.ws 0 E.os E.T
  hr : RefsOk E.ws E.st
  rt : ∀ z ∈ E.rts, z = 0 ∨ ∃ (j : Nat) (o : RO), E.os[j]? = some o ∧ z = (o.i : Int) + 1 ∧ o.k ≠ 15
  p1 : 1 ≤ E.part
  p2 : E.part ≤ 64
  K1 : 1 ≤ E.K
  K2 : E.K ≤ 4095
  W1 : 1 ≤ E.W
  W2 : E.W ≤ 7
  S2 : E.rS ≤ 65534
  R2 : E.rts.length ≤ 1024
abbrev EI (E : EV) (s : MS) : Prop := MInv E.n E.W E.rm E.rS E.part E.os E.rts s
abbrev EN (E : EV) (s s' : MS) (w : Nat) : Prop := Next E.n E.W E.rm E.rS E.part E.os E.rts s s' w
def fnM : Nat → FuncId
  | 0 => 72
  | 1 => 103
  | 2 => 158
  | 3 => 177
  | 4 => 164
  | 5 => 104
  | 6 => 123
  | 7 => 144
  | 8 => 166
  | 9 => 183
  | 10 => 193
  | 11 => 201
  | _ => 199
def thV (tn : Nat) : Value := if tn = 13 then .nilFunc else fnV (fnM tn)
abbrev callV : CL → Value
  | .none => .nilIface
  | .dq _ y => dqI y.c
  | .sp y => spI y.c
abbrev callL (E : EV) : CL → List HP
  | .none => []
  | .dq d y => [dcL y.c (E.dp d) y.k (nx (Dq.fnD y)) y.b y.t y.word 0]
  | .sp y => [Sp.scL y.c E.pp y.k (decide (0 < y.w)) y.s y.n y.word false 0]
abbrev wkT (E : EV) (x : WK) (draw : Int) (cv : Value) : HP := wkB (E.wp x.k) E.pM x.k draw (fnV (fnM x.st)) x.at_ x.to x.x.a x.x.f x.x.t x.scans x.push (thV x.tn) cv x.victim x.low x.seen
abbrev wkL (E : EV) (x : WK) (draw : Int) : List HP := wkT E x draw (callV x.cl) :: callL E x.cl
def wkH (E : EV) (x : WK) : HP := exP (fun draw : Int => In64 draw) (wkL E x)
def dqH (E : EV) (q : DQ) : HP := big (deqZ (E.dp q.k) (E.dpc q.k) (E.dbw q.k) q.ws E.rm)
abbrev dptrs (E : EV) : List Value := (List.range E.W).map fun d => ptr (E.dp d) 0
abbrev wptrs (E : EV) : List Value := (List.range E.W).map fun d => ptr (E.wp d) 0
abbrev Rd (E : EV) : HP := row 153 1 E.da E.W E.dc (dptrs E)
abbrev Rw (E : EV) : HP := row 156 1 E.wa E.W E.wc (wptrs E)
def idleX (X : List WK) : List Bool := X.map fun x => decide (9 ≤ x.st)
def cntX (X : List WK) : Nat := X.countP fun x => decide (9 ≤ x.st)
abbrev mB (E : EV) (tv sv : Int) : HP := mkB E.pM E.p E.pr E.pk E.pp E.po E.da E.W E.dc E.wa E.W E.wc E.K tv sv
abbrev shT (E : EV) (tv sv : Int) (ms : List Nat) (nc : Nat) (sw : List Int) (cnt : Int) (idle : List Bool) (dqs : HP) : List HP :=
  mB E tv sv :: (heapL E.p E.bw E.bs E.n E.ws E.T E.st ++ (marksL E.pk E.bm E.n ms ++ (Rt.rootsZ E.pr E.rc E.rw nc E.ar E.cr E.rts E.part ++ (Sp.spillZ E.pp E.qpc E.qbw sw E.rS ++ (Of.offerZ E.po E.qc E.qw E.qi cnt idle ++ [Rd E, dqs])))))
abbrev shL (E : EV) (s : MS) (tv sv : Int) : List HP := shT E tv sv s.ms s.nc s.sw (cntX s.X : Nat) (idleX s.X) (bigM (dqH E) s.D)
theorem dptr_at {E : EV} {d : Nat} (h : d < E.W) : (dptrs E)[d]? = some (ptr (E.dp d) 0) := by
  rw [List.getElem?_map, List.getElem?_range h]; rfl
theorem wptr_at {E : EV} {d : Nat} (h : d < E.W) : (wptrs E)[d]? = some (ptr (E.wp d) 0) := by
  rw [List.getElem?_map, List.getElem?_range h]; rfl
abbrev StepP (E : EV) (s : MS) (w : Nat) (sv : Int) (v : Value) (l : List HP) : Prop :=
  v = .tuple #[] ∧ ∃ s' x' draw, EN E s s' w ∧ s'.X = s.X.set w x' ∧ s'.m = s.m + 1 ∧ In64 draw ∧ l = wkL E x' draw ++ shL E s' s'.tv sv
theorem idle_set {X : List WK} {w : Nat} {x x' : WK} (hx : X[w]? = some x) (h : 9 ≤ x'.st ↔ 9 ≤ x.st) : idleX (X.set w x') = idleX X := by
  unfold idleX
  rw [List.map_set]
  have : decide (9 ≤ x'.st) = decide (9 ≤ x.st) := decide_eq_decide.2 h
  rw [this]
  exact set_id (by rw [List.getElem?_map, hx]; rfl)
theorem cnt_set {X : List WK} {w : Nat} {x x' : WK} (hx : X[w]? = some x) : cntX (X.set w x') + (if 9 ≤ x.st then 1 else 0) = cntX X + (if 9 ≤ x'.st then 1 else 0) := by
  have := countP_set (p := fun x : WK => decide (9 ≤ x.st)) (x' := x') hx
  unfold cntX
  simp only [decide_eq_true_eq] at this
  omega
theorem cnt_same {X : List WK} {w : Nat} {x x' : WK} (hx : X[w]? = some x) (h : 9 ≤ x'.st ↔ 9 ≤ x.st) : cntX (X.set w x') = cntX X := by
  have := cnt_set (x' := x') hx
  by_cases e : 9 ≤ x.st
  · rw [if_pos e, if_pos (h.2 e)] at this; omega
  · rw [if_neg e, if_neg (fun e2 => e (h.1 e2))] at this; omega
theorem cnt_all {X : List WK} : cntX X = X.length ↔ ∀ (j : Nat) (x : WK), X[j]? = some x → 9 ≤ x.st := by
  unfold cntX
  rw [List.countP_eq_length]
  constructor
  · intro h j x hx
    exact of_decide_eq_true (h x (List.mem_of_getElem? hx))
  · intro h x hx
    obtain ⟨j, hj⟩ := List.getElem?_of_mem hx
    exact decide_eq_true (h j x hj)
theorem cnt_le {X : List WK} : cntX X ≤ X.length := List.countP_le_length
section steps
variable {E : EV} {s : MS} {w : Nat} {x : WK} {draw sv : Int}
theorem sh_go {q : DQ} {x' : WK} {ms' : List Nat} {nc' : Nat} {sw' sP' : List Int} {sL' : Option Nat} {tv' m' : Nat} (hx : s.X[w]? = some x) (hq : s.D[w]? = some q) (h9 : 9 ≤ x'.st ↔ 9 ≤ x.st) (tv sv : Int) :
    shL E (s.go w w x' q ms' nc' sw' sP' sL' tv' m') tv sv = shT E tv sv ms' nc' sw' (cntX s.X : Nat) (idleX s.X) (bigM (dqH E) s.D) := by
  show shT E tv sv ms' nc' sw' (cntX (s.X.set w x') : Nat) (idleX (s.X.set w x')) (bigM (dqH E) (s.D.set w q)) = _
  rw [idle_set hx h9, cnt_same hx h9, set_id hq]
theorem WFacts (hE : EOk E) (hI : EI E s) (hx : s.X[w]? = some x) : x.k = w ∧ w < E.W ∧ E.W ≤ 7 ∧ OneO E.os ∧ s.tv ≤ s.m ∧ ∃ q, s.D[w]? = some q :=
  ⟨hI.xk _ _ hx, by have := (List.getElem?_eq_some_iff.1 hx).1; have := hI.xl; omega, hE.W2, OneO.of hE.hc, hI.tv, hI.dw hx⟩
theorem wkL_none (hcl : x.cl = .none) : wkL E x draw = [wkT E x draw .nilIface] := by unfold wkL; rw [hcl]
set_option maxHeartbeats 4000000 in
theorem ws_claim (hE : EOk E) (hI : EI E s) (hx : s.X[w]? = some x) (hd : In64 draw) (hm : s.m ≤ 1000000000000) (h0 : x.st = 0) :
    Does Tryz.prog 72 [ptr (E.wp w) 0] (wkL E x draw ++ shL E s s.tv sv) (StepP E s w sv) := by
  obtain ⟨hxk, hwW, hW2, hone, htv, q, hq⟩ := WFacts hE hI hx
  subst hxk
  have hn := hI.nm
  have hp1 := hE.p1
  have hp2 := hE.p2
  have hR2 := hE.R2
  obtain ⟨hcl, hpu⟩ := none14 (hI.wk _ _ hx).lo (.inl h0)
  rw [wkL_none hcl]
  have hcst : (s.nc : Int) * (E.part : Int) = ((s.nc * E.part : Nat) : Int) := by simp
  by_cases hlt : s.nc * E.part < E.rts.length
  · refine Does.use (pre := wkT E x draw .nilIface :: mB E s.tv sv :: Rt.rootsZ E.pr E.rc E.rw s.nc E.ar E.cr E.rts E.part)
      (claim_ok (by omega) (by omega) (by omega) (by omega) (by omega) (by omega) (by omega) (by constructor <;> omega)) (fun H hl => hl.perm (picks_perm (is := [0, 0, 5, 5, 5]) rfl)) ?_
    rintro v l ⟨rfl, rfl⟩
    refine ⟨_, ⟨rfl, _, _, draw, step_claim_ok (tv' := s.tv + 1) (m' := s.m + 1) hI hone hx hq h0 hE.p1 hlt (Nat.le_refl _) (by omega), rfl, rfl, hd, rfl⟩, fun H hl => ?_⟩
    rw [sh_go hx hq (by show 9 ≤ 1 ↔ 9 ≤ x.st; omega), wkL_none (x := { x with st := 1, at_ := s.nc * E.part, to := min E.rts.length (s.nc * E.part + E.part) }) hcl]
    have e3 : ((min E.rts.length (s.nc * E.part + E.part) : Nat) : Int) = (if (E.rts.length : Int) < (s.nc : Int) * E.part + E.part then (E.rts.length : Int) else (s.nc : Int) * E.part + E.part) := by
      rw [hcst]; split <;> omega
    show Stars (wkB (E.wp x.k) E.pM x.k draw (fnV 103) ((s.nc * E.part : Nat) : Int) ((min E.rts.length (s.nc * E.part + E.part) : Nat) : Int) x.x.a x.x.f x.x.t x.scans x.push (thV x.tn) .nilIface x.victim x.low x.seen :: _) H
    rw [e3, ← hcst]
    exact hl.pick (is := [0, 0, 3, 3, 3, 3, 3, 0, 0, 0, 0, 0, 0, 0, 0, 0, 0]) rfl
  · refine Does.use (pre := wkT E x draw .nilIface :: mB E s.tv sv :: Rt.rootsZ E.pr E.rc E.rw s.nc E.ar E.cr E.rts E.part)
      (claim_none (by omega) (by omega) (by omega) (by omega) (by omega) (by omega) (by omega) (by constructor <;> omega)) (fun H hl => hl.perm (picks_perm (is := [0, 0, 5, 5, 5]) rfl)) ?_
    rintro v l ⟨rfl, rfl⟩
    refine ⟨_, ⟨rfl, _, _, draw, step_claim_none (tv' := s.tv + 1) (m' := s.m + 1) hI hone hx hq h0 (by omega) (Nat.le_refl _) (by omega), rfl, rfl, hd, rfl⟩, fun H hl => ?_⟩
    rw [sh_go hx hq (by show 9 ≤ 5 ↔ 9 ≤ x.st; omega), wkL_none (x := { x with st := 5, at_ := 0, to := 0 }) hcl]
    exact hl.pick (is := [0, 0, 3, 3, 3, 3, 3, 0, 0, 0, 0, 0, 0, 0, 0, 0, 0]) rfl
theorem sh_go' {q : DQ} {x' : WK} {ms' : List Nat} {nc' : Nat} {sw' sP' : List Int} {sL' : Option Nat} {tv' m' : Nat} (hx : s.X[w]? = some x) (hq : s.D[w]? = some q) (tv sv : Int) :
    shL E (s.go w w x' q ms' nc' sw' sP' sL' tv' m') tv sv = shT E tv sv ms' nc' sw' (cntX (s.X.set w x') : Nat) ((idleX s.X).set w (decide (9 ≤ x'.st))) (bigM (dqH E) s.D) := by
  show shT E tv sv ms' nc' sw' (cntX (s.X.set w x') : Nat) (idleX (s.X.set w x')) (bigM (dqH E) (s.D.set w q)) = _
  rw [set_id hq]
  unfold idleX
  rw [List.map_set]
set_option maxHeartbeats 4000000 in
theorem ws_idle (hE : EOk E) (hI : EI E s) (hx : s.X[w]? = some x) (hd : In64 draw) (hm : s.m ≤ 1000000000000) (h8 : x.st = 8) :
    Does Tryz.prog 166 [ptr (E.wp w) 0] (wkL E x draw ++ shL E s s.tv sv) (StepP E s w sv) := by
  obtain ⟨hxk, hwW, hW2, hone, htv, q, hq⟩ := WFacts hE hI hx
  subst hxk
  have hlo := (hI.wk _ _ hx).lo
  unfold WLoc at hlo
  rw [h8] at hlo
  obtain ⟨hcl, hpu⟩ := hlo
  have hxl := hI.xl
  have hcl2 := cnt_le (X := s.X)
  have hil : (idleX s.X).length = E.W := by unfold idleX; rw [List.length_map, hxl]
  have hig : (idleX s.X)[x.k]? = some false := by
    unfold idleX
    rw [List.getElem?_map, hx]
    exact congrArg some (decide_eq_false (by omega))
  rw [wkL_none hcl]
  refine Does.use (pre := wkT E x draw .nilIface :: mB E s.tv sv :: Of.offerZ E.po E.qc E.qw E.qi (cntX s.X : Nat) (idleX s.X)) (idle_spec x.k (by omega) hig (by omega) (by omega) (by omega) (by constructor <;> omega)) (fun H hl => hl.perm (picks_perm (is := [0, 0, 10, 10, 10]) rfl)) ?_
  rintro v l ⟨rfl, rfl⟩
  refine ⟨_, ⟨rfl, _, _, draw, step_calm (x' := { x with st := 9 }) (tv' := s.tv + 1) (m' := s.m + 1) hI hone hx hq (by omega) rfl rfl rfl rfl rfl rfl (by show 6 ≤ 9; decide) ⟨hcl, hpu⟩ (Nat.le_succ _) (by omega) (by show 9 ≠ 7; decide) (.inr (.inr (.inr (.inr (.inr (.inr (.inl ⟨h8, rfl, rfl⟩))))))), rfl, rfl, hd, rfl⟩, fun H hl => ?_⟩
  have hcn := cnt_set (x' := { x with st := 9 }) hx
  rw [if_neg (by omega), if_pos (show 9 ≤ 9 from Nat.le_refl _)] at hcn
  have hcn2 : cntX (s.X.set x.k { x with st := 9 }) = cntX s.X + 1 := hcn
  rw [sh_go' hx hq, wkL_none (x := { x with st := 9 }) hcl, hcn2]
  exact hl.pick (is := [0, 0, 3, 3, 3, 3, 3, 3, 3, 3, 3, 3, 0, 0, 0, 0, 0]) rfl
end steps
end Go.Proofs.YtfmkjbmogfhpbaaGreatDoor.Mk
set_option maxRecDepth 8000
namespace Go.Proofs.YtfmkjbmogfhpbaaGreatDoor.Mk
open Go.Sep
theorem dq_out {E : EV} {D : List DQ} {d : Nat} {q : DQ} {l : List HP} {H : PH} (hq : D[d]? = some q) (h : Stars (bigM (dqH E) D :: l) H) : Stars (deqZ (E.dp q.k) (E.dpc q.k) (E.dbw q.k) q.ws E.rm ++ (bigM (dqH E) (D.eraseIdx d) :: l)) H :=
  (bigM.out hq h).open
theorem dq_back {E : EV} {D : List DQ} {d : Nat} {q : DQ} {l : List HP} {H : PH} (hd : d < D.length) (h : Stars (deqZ (E.dp q.k) (E.dpc q.k) (E.dbw q.k) q.ws E.rm ++ (bigM (dqH E) (D.eraseIdx d) :: l)) H) : Stars (bigM (dqH E) (D.set d q) :: l) H :=
  bigM.back hd (Stars.shut h)
section steps
variable {E : EV} {s : MS} {w : Nat} {x : WK} {draw sv : Int}
theorem not_over (hI : EI E s) (hno : ¬ Over s) : cntX s.X < E.W := by
  have h1 := cnt_le (X := s.X)
  have h2 := hI.xl
  have : cntX s.X ≠ s.X.length := fun e => hno (cnt_all.1 e)
  omega
set_option maxHeartbeats 4000000 in
theorem ws_look (hE : EOk E) (hI : EI E s) (hx : s.X[w]? = some x) (hd : In64 draw) (hm : s.m ≤ 1000000000000) (hno : ¬ Over s) (h9 : x.st = 9) :
    Does Tryz.prog 183 [ptr (E.wp w) 0] (wkL E x draw ++ shL E s s.tv sv) (StepP E s w sv) := by
  obtain ⟨hxk, hwW, hW2, hone, htv, q, hq⟩ := WFacts hE hI hx
  subst hxk
  have hlo := (hI.wk _ _ hx).lo
  unfold WLoc at hlo
  rw [h9] at hlo
  obtain ⟨hcl, hpu⟩ := hlo
  have hc := not_over hI hno
  have hxl := hI.xl
  have hil : (idleX s.X).length = E.W := by unfold idleX; rw [List.length_map, hxl]
  rw [wkL_none hcl]
  refine Does.use (pre := wkT E x draw .nilIface :: mB E s.tv sv :: Of.offerZ E.po E.qc E.qw E.qi (cntX s.X : Nat) (idleX s.X)) (look_spec x.k (by omega) (by omega) (by constructor <;> omega)) (fun H hl => hl.perm (picks_perm (is := [0, 0, 10, 10, 10]) rfl)) ?_
  rintro v l ⟨rfl, rfl⟩
  refine ⟨_, ⟨rfl, _, _, draw, step_calm (x' := { x with st := 10, victim := 0, seen := (cntX s.X : Nat) }) (tv' := s.tv + 1) (m' := s.m + 1) hI hone hx hq (by omega) rfl rfl rfl rfl rfl rfl (by show 6 ≤ 10; decide) ⟨hcl, hpu, Nat.zero_le _, by show (0 : Int) ≤ (cntX s.X : Nat); omega, by show ((cntX s.X : Nat) : Int) < E.W; omega⟩ (Nat.le_succ _) (by omega) (by show 10 ≠ 7; decide) (.inr (.inr (.inr (.inr (.inr (.inr (.inr (.inl ⟨by omega, by show 9 ≤ 10; decide, rfl, fun e => absurd (show 10 = 12 from e) (by decide), fun e => absurd (show 10 = 11 from e) (by decide)⟩)))))))), rfl, rfl, hd, rfl⟩, fun H hl => ?_⟩
  rw [sh_go hx hq (by show 9 ≤ 10 ↔ 9 ≤ x.st; omega), wkL_none (x := { x with st := 10, victim := 0, seen := (cntX s.X : Nat) }) hcl]
  exact hl.pick (is := [0, 0, 3, 3, 3, 3, 3, 3, 3, 3, 3, 3, 0, 0, 0, 0, 0]) rfl
set_option maxHeartbeats 8000000 in
theorem ws_peek (hE : EOk E) (hI : EI E s) (hx : s.X[w]? = some x) (hd : In64 draw) (hm : s.m ≤ 1000000000000) (hRd : Reads (Rd E) 1 E.W E.da E.dc (dptrs E)) (h10 : x.st = 10) :
    Does Tryz.prog 193 [ptr (E.wp w) 0] (wkL E x draw ++ shL E s s.tv sv) (StepP E s w sv) := by
  obtain ⟨hxk, hwW, hW2, hone, htv, q, hq⟩ := WFacts hE hI hx
  subst hxk
  have hlo := (hI.wk _ _ hx).lo
  unfold WLoc at hlo
  rw [h10] at hlo
  obtain ⟨hcl, hpu, hv, hs1, hs2⟩ := hlo
  have hS2 := hE.S2
  rw [wkL_none hcl]
  by_cases e1 : x.victim = E.W
  · have hpn := hI.sh.pn
    have hswl := hI.sh.wl
    have e1v : wkT E x draw .nilIface = wkB (E.wp x.k) E.pM x.k draw (fnV (fnM x.st)) x.at_ x.to x.x.a x.x.f x.x.t x.scans x.push (thV x.tn) .nilIface (E.W : Nat) x.low x.seen := by unfold wkT; rw [e1]
    rw [e1v]
    refine Does.use (pre := wkB (E.wp x.k) E.pM x.k draw (fnV (fnM x.st)) x.at_ x.to x.x.a x.x.f x.x.t x.scans x.push (thV x.tn) .nilIface (E.W : Nat) x.low x.seen :: mB E s.tv sv :: Sp.spillZ E.pp E.qpc E.qbw s.sw E.rS) (peek_spill x.k (by omega) hpn (by omega) (by constructor <;> omega)) (fun H hl => hl.perm (picks_perm (is := [0, 0, 8, 8]) rfl)) ?_
    · rintro v l ⟨rfl, rfl⟩
      have hst : (if 0 < ((s.sP.length : Nat) : Int) then 199 else 183) = fnM (if s.sP = [] then 9 else 12) := by
        cases h : s.sP with
        | nil => rfl
        | cons a r =>
          rw [if_pos (by simp), if_neg (by simp)]
          rfl
      rw [hst]
      have hw : (if s.sP = [] then 9 else 12) = 9 ∨ (if s.sP = [] then 9 else 12) = 12 := by split <;> omega
      refine ⟨_, ⟨rfl, _, _, draw, step_calm (x' := { x with st := if s.sP = [] then 9 else 12 }) (tv' := s.tv + 1) (m' := s.m + 1) hI hone hx hq (by omega) rfl rfl rfl rfl rfl rfl (by dsimp only; omega) ?_ (Nat.le_succ _) (by omega) (by dsimp only; omega) (.inr (.inr (.inr (.inr (.inr (.inr (.inr (.inl ⟨by omega, by dsimp only; omega, rfl, fun e => ?_, fun e => ?_⟩)))))))), rfl, rfl, hd, rfl⟩, fun H hl => ?_⟩
      · unfold WLoc
        dsimp only
        by_cases e : s.sP = []
        · rw [if_pos e]; exact ⟨hcl, hpu⟩
        · rw [if_neg e]; exact ⟨hcl, hpu, hs1, hs2⟩
      · right
        intro e2
        dsimp only at e
        rw [if_pos e2] at e
        cases e
      · dsimp only at e
        omega
      · rw [sh_go hx hq (by dsimp only; omega), wkL_none (x := { x with st := if s.sP = [] then 9 else 12 }) hcl]
        unfold wkT
        dsimp only
        rw [e1]
        exact hl.pick (is := [0, 0, 2, 2, 2, 2, 2, 2, 2, 2, 0, 0, 0, 0, 0, 0, 0]) rfl
  · by_cases e2 : x.victim = x.k
    · have e2v : wkT E x draw .nilIface = wkB (E.wp x.k) E.pM x.k draw (fnV (fnM x.st)) x.at_ x.to x.x.a x.x.f x.x.t x.scans x.push (thV x.tn) .nilIface (x.k : Nat) x.low x.seen := by unfold wkT; rw [e2]
      rw [e2v]
      refine Does.use (pre := [wkB (E.wp x.k) E.pM x.k draw (fnV (fnM x.st)) x.at_ x.to x.x.a x.x.f x.x.t x.scans x.push (thV x.tn) .nilIface (x.k : Nat) x.low x.seen, mB E s.tv sv]) (peek_self x.k hwW (by omega)) (fun H hl => hl.perm (picks_perm (is := [0, 0]) rfl)) ?_
      · rintro v l ⟨rfl, rfl⟩
        refine ⟨_, ⟨rfl, _, _, draw, step_calm (x' := { x with victim := x.k + 1 }) (tv' := s.tv) (m' := s.m + 1) hI hone hx hq (by omega) rfl rfl rfl rfl rfl rfl (by dsimp only; omega) ?_ (Nat.le_succ _) (by omega) (by dsimp only; omega) (.inr (.inr (.inr (.inr (.inr (.inr (.inr (.inl ⟨by omega, by dsimp only; omega, rfl, fun e => ?_, fun e => ?_⟩)))))))), rfl, rfl, hd, rfl⟩, fun H hl => ?_⟩
        · unfold WLoc
          dsimp only
          rw [h10]
          exact ⟨hcl, hpu, by show x.k + 1 ≤ E.W; omega, hs1, hs2⟩
        · dsimp only at e; omega
        · dsimp only at e; omega
        · rw [sh_go hx hq (by dsimp only; omega), wkL_none (x := { x with victim := x.k + 1 }) hcl]
          exact hl
    · have hvW : x.victim < E.W := by omega
      obtain ⟨q2, hq2⟩ : ∃ q2, s.D[x.victim]? = some q2 := ⟨s.D[x.victim]'(by have := hI.dl; omega), List.getElem?_eq_getElem _⟩
      have hqk := hI.dk _ _ hq2
      obtain ⟨pu, hD⟩ := hI.dh _ _ hq2
      obtain ⟨m0, hm0, hm1⟩ := hD.bot
      have hwl := hD.wl
      have hr4 := hD.r4
      have hdl : x.victim < s.D.length := (List.getElem?_eq_some_iff.1 hq2).1
      refine Does.use (pre := wkT E x draw .nilIface :: mB E s.tv sv :: Rd E :: deqZ (E.dp q2.k) (E.dpc q2.k) (E.dbw q2.k) q2.ws E.rm) (peek_other x.k x.victim hwW hvW e2 (by omega) hRd (by rw [hqk]; exact dptr_at hvW) hm0 (by omega) (by constructor <;> omega)) (fun H hl => (dq_out hq2 (hl.perm (picks_perm (is := [16]) rfl))).perm (picks_perm (is := [3, 3, 16, 0, 0]) rfl)) ?_
      · rintro v l ⟨rfl, rfl⟩
        refine ⟨_, ⟨rfl, _, _, draw, step_calm (x' := { x with st := 11, low := (m0 : Int) }) (tv' := s.tv + 1) (m' := s.m + 1) hI hone hx hq (by omega) rfl rfl rfl rfl rfl rfl (by show 6 ≤ 11; decide) ⟨hcl, hpu, hvW, e2, hs1, hs2⟩ (Nat.le_succ _) (by omega) (by show 11 ≠ 7; decide) (.inr (.inr (.inr (.inr (.inr (.inr (.inr (.inl ⟨by omega, by show 9 ≤ 11; decide, rfl, fun e => absurd (show 11 = 12 from e) (by decide), fun _ q3 hq3 => ?_⟩)))))))), rfl, rfl, hd, rfl⟩, fun H hl => ?_⟩
        · rw [hq2] at hq3; injection hq3 with hq3; subst hq3
          show ((m0 : Nat) : Int) ≤ _
          omega
        · have h1 := hl.perm (picks_perm (is := [3, 3, 3]) rfl)
          have h2 := dq_back (E := E) (q := q2) hdl h1
          rw [set_id hq2] at h2
          rw [sh_go hx hq (by show 9 ≤ 11 ↔ 9 ≤ x.st; omega), wkL_none (x := { x with st := 11, low := (m0 : Int) }) hcl]
          exact h2.pick (is := [1, 1, 2, 2, 2, 2, 2, 2, 2, 2, 2, 2, 2, 2, 2, 1, 0]) rfl
end steps
end Go.Proofs.YtfmkjbmogfhpbaaGreatDoor.Mk
set_option maxRecDepth 8000
namespace Go.Proofs.YtfmkjbmogfhpbaaGreatDoor.Mk
open Go.Sep
section steps
variable {E : EV} {s : MS} {w : Nat} {x : WK} {draw sv : Int}
set_option maxHeartbeats 8000000 in
theorem ws_peekTop (hE : EOk E) (hI : EI E s) (hx : s.X[w]? = some x) (hd : In64 draw) (hm : s.m ≤ 1000000000000) (hRd : Reads (Rd E) 1 E.W E.da E.dc (dptrs E)) (h11 : x.st = 11) :
    Does Tryz.prog 201 [ptr (E.wp w) 0] (wkL E x draw ++ shL E s s.tv sv) (StepP E s w sv) := by
  obtain ⟨hxk, hwW, hW2, hone, htv, q, hq⟩ := WFacts hE hI hx
  subst hxk
  have hlo := (hI.wk _ _ hx).lo
  unfold WLoc at hlo
  rw [h11] at hlo
  obtain ⟨hcl, hpu, hvW, hvk, hs1, hs2⟩ := hlo
  rw [wkL_none hcl]
  obtain ⟨q2, hq2⟩ : ∃ q2, s.D[x.victim]? = some q2 := ⟨s.D[x.victim]'(by have := hI.dl; omega), List.getElem?_eq_getElem _⟩
  have hqk := hI.dk _ _ hq2
  obtain ⟨pu, hD⟩ := hI.dh _ _ hq2
  have hwl := hD.wl
  have hr4 := hD.r4
  have hdl : x.victim < s.D.length := (List.getElem?_eq_some_iff.1 hq2).1
  refine Does.use (pre := wkT E x draw .nilIface :: mB E s.tv sv :: Rd E :: deqZ (E.dp q2.k) (E.dpc q2.k) (E.dbw q2.k) q2.ws E.rm) (peekTop_spec x.k x.victim hwW hvW (by omega) hRd (by rw [hqk]; exact dptr_at hvW) hD.tp (by omega) (by constructor <;> omega)) (fun H hl => (dq_out hq2 (hl.perm (picks_perm (is := [16]) rfl))).perm (picks_perm (is := [3, 3, 16, 0, 0]) rfl)) ?_
  rintro v l ⟨rfl, rfl⟩
  have hst : (if ((q2.T % 4096 : Nat) : Int) < x.low then 199 else 193) = fnM (if ((q2.T % 4096 : Nat) : Int) < x.low then 12 else 10) := by split <;> rfl
  rw [hst]
  have hw : ((if ((q2.T % 4096 : Nat) : Int) < x.low then 12 else 10) = 12 ∧ ((q2.T % 4096 : Nat) : Int) < x.low) ∨ (if ((q2.T % 4096 : Nat) : Int) < x.low then 12 else 10) = 10 := by
    by_cases e : ((q2.T % 4096 : Nat) : Int) < x.low
    · rw [if_pos e]; exact .inl ⟨rfl, e⟩
    · rw [if_neg e]; exact .inr rfl
  generalize hz : (if ((q2.T % 4096 : Nat) : Int) < x.low then 12 else 10) = z at hw
  refine ⟨_, ⟨rfl, _, _, draw, step_calm (x' := { x with st := z, victim := x.victim + 1 }) (tv' := s.tv + 1) (m' := s.m + 1) hI hone hx hq (by omega) rfl rfl rfl rfl rfl rfl (by dsimp only; omega) ?_ (Nat.le_succ _) (by omega) (by dsimp only; omega) (.inr (.inr (.inr (.inr (.inr (.inr (.inr (.inl ⟨by omega, by dsimp only; omega, rfl, fun e => ?_, fun e => ?_⟩)))))))), rfl, rfl, hd, rfl⟩, fun H hl => ?_⟩
  · unfold WLoc
    dsimp only
    rcases hw with ⟨rfl, _⟩ | rfl
    · exact ⟨hcl, hpu, hs1, hs2⟩
    · exact ⟨hcl, hpu, by show x.victim + 1 ≤ E.W; omega, hs1, hs2⟩
  · left
    have e : z = 12 := e
    refine ⟨h11, q2, hq2, ?_⟩
    rcases hw with ⟨_, h⟩ | h
    · exact h
    · omega
  · have e : z = 11 := e
    omega
  · have h1 := hl.perm (picks_perm (is := [3, 3, 3]) rfl)
    have h2 := dq_back (E := E) (q := q2) hdl h1
    rw [set_id hq2] at h2
    rw [sh_go hx hq (by dsimp only; omega), wkL_none (x := { x with st := z, victim := x.victim + 1 }) hcl]
    exact h2.pick (is := [1, 1, 2, 2, 2, 2, 2, 2, 2, 2, 2, 2, 2, 2, 2, 1, 0]) rfl
set_option maxHeartbeats 8000000 in
theorem ws_back (hE : EOk E) (hI : EI E s) (hx : s.X[w]? = some x) (hd : In64 draw) (hm : s.m ≤ 1000000000000) (hno : ¬ Over s) (h12 : x.st = 12) :
    Does Tryz.prog 199 [ptr (E.wp w) 0] (wkL E x draw ++ shL E s s.tv sv) (StepP E s w sv) := by
  obtain ⟨hxk, hwW, hW2, hone, htv, q, hq⟩ := WFacts hE hI hx
  subst hxk
  have hlo := (hI.wk _ _ hx).lo
  unfold WLoc at hlo
  rw [h12] at hlo
  obtain ⟨hcl, hpu, hs1, hs2⟩ := hlo
  have hc := not_over hI hno
  have hxl := hI.xl
  have hil : (idleX s.X).length = E.W := by unfold idleX; rw [List.length_map, hxl]
  have hig : (idleX s.X)[x.k]? = some true := by
    unfold idleX
    rw [List.getElem?_map, hx]
    exact congrArg some (decide_eq_true (by omega))
  rw [wkL_none hcl]
  by_cases e : x.seen = (cntX s.X : Nat)
  · have e1v : wkT E x draw .nilIface = wkB (E.wp x.k) E.pM x.k draw (fnV (fnM x.st)) x.at_ x.to x.x.a x.x.f x.x.t x.scans x.push (thV x.tn) .nilIface x.victim x.low (cntX s.X : Nat) := by unfold wkT; rw [e]
    rw [e1v]
    have hc1 : 1 ≤ cntX s.X := by
      have : 0 < cntX s.X := by
        unfold cntX
        rw [List.countP_pos_iff]
        exact ⟨x, List.mem_of_getElem? hx, decide_eq_true (by omega)⟩
      exact this
    refine Does.use (pre := wkB (E.wp x.k) E.pM x.k draw (fnV (fnM x.st)) x.at_ x.to x.x.a x.x.f x.x.t x.scans x.push (thV x.tn) .nilIface x.victim x.low (cntX s.X : Nat) :: mB E s.tv sv :: Of.offerZ E.po E.qc E.qw E.qi (cntX s.X : Nat) (idleX s.X)) (back_ok x.k hig (by omega) (by omega) (by omega) (by constructor <;> omega)) (fun H hl => hl.perm (picks_perm (is := [0, 0, 10, 10, 10]) rfl)) ?_
    rintro v l ⟨rfl, rfl⟩
    refine ⟨_, ⟨rfl, _, _, draw, step_calm (x' := { x with st := 6 }) (tv' := s.tv + 1) (m' := s.m + 1) hI hone hx hq (by omega) rfl rfl rfl rfl rfl rfl (by show 6 ≤ 6; decide) ⟨hpu, .inl hcl⟩ (Nat.le_succ _) (by omega) (by show 6 ≠ 7; decide) (.inr (.inr (.inr (.inr (.inr (.inr (.inr (.inr ⟨h12, rfl, hcl, rfl⟩)))))))), rfl, rfl, hd, rfl⟩, fun H hl => ?_⟩
    have hcn := cnt_set (x' := { x with st := 6 }) hx
    rw [if_pos (by omega), if_neg (show ¬ 9 ≤ 6 by decide)] at hcn
    have hcn2 : ((cntX (s.X.set x.k { x with st := 6 }) : Nat) : Int) = (cntX s.X : Nat) - 1 := by omega
    rw [sh_go' hx hq, wkL_none (x := { x with st := 6 }) hcl, hcn2]
    unfold wkT
    dsimp only
    rw [e]
    exact hl.pick (is := [0, 0, 3, 3, 3, 3, 3, 3, 3, 3, 3, 3, 0, 0, 0, 0, 0]) rfl
  · refine Does.use (pre := wkT E x draw .nilIface :: mB E s.tv sv :: Of.offerZ E.po E.qc E.qw E.qi (cntX s.X : Nat) (idleX s.X)) (back_no x.k hig e (by omega) (by omega) (by omega) (by omega) (by constructor <;> omega)) (fun H hl => hl.perm (picks_perm (is := [0, 0, 10, 10, 10]) rfl)) ?_
    rintro v l ⟨rfl, rfl⟩
    refine ⟨_, ⟨rfl, _, _, draw, step_calm (x' := { x with st := 9 }) (tv' := s.tv + 1) (m' := s.m + 1) hI hone hx hq (by omega) rfl rfl rfl rfl rfl rfl (by show 6 ≤ 9; decide) ⟨hcl, hpu⟩ (Nat.le_succ _) (by omega) (by show 9 ≠ 7; decide) (.inr (.inr (.inr (.inr (.inr (.inr (.inr (.inl ⟨by omega, by show 9 ≤ 9; decide, rfl, fun e => absurd (show 9 = 12 from e) (by decide), fun e => absurd (show 9 = 11 from e) (by decide)⟩)))))))), rfl, rfl, hd, rfl⟩, fun H hl => ?_⟩
    rw [sh_go hx hq (by show 9 ≤ 9 ↔ 9 ≤ x.st; omega), wkL_none (x := { x with st := 9 }) hcl]
    exact hl.pick (is := [0, 0, 3, 3, 3, 3, 3, 3, 3, 3, 3, 3, 0, 0, 0, 0, 0]) rfl
set_option maxHeartbeats 4000000 in
theorem ws_steal1 (hE : EOk E) (hI : EI E s) (hx : s.X[w]? = some x) (hd : In64 draw) (hm : s.m ≤ 1000000000000) (h1 : E.W = 1) (h6 : x.st = 6) :
    Does Tryz.prog 123 [ptr (E.wp w) 0] (wkL E x draw ++ shL E s s.tv sv) (StepP E s w sv) := by
  obtain ⟨hxk, hwW, hW2, hone, htv, q, hq⟩ := WFacts hE hI hx
  subst hxk
  have hlo := (hI.wk _ _ hx).lo
  unfold WLoc at hlo
  rw [h6] at hlo
  obtain ⟨hpu, hcl⟩ := hlo
  have hcl : x.cl = .none := by
    rcases hcl with h | ⟨d, y, _, h2, h3, _⟩
    · exact h
    · omega
  rw [wkL_none hcl]
  have e1 : es x = 6 := by rw [es_of (by omega) (by omega)]; exact h6
  have e2 : es { x with st := 7 } = 7 := rfl
  refine Does.use (pre := [wkT E x draw .nilIface, mB E s.tv sv]) (steal_one h1) (fun H hl => hl.perm (picks_perm (is := [0, 0]) rfl)) ?_
  rintro v l ⟨rfl, rfl⟩
  refine ⟨_, ⟨rfl, _, _, draw, ⟨hI.calm0 (tv' := s.tv) (m' := s.m + 1) hone hx hq { x with st := 7 } rfl rfl rfl rfl rfl rfl (by omega) (by omega) (by omega) ⟨hpu, .inl hcl⟩ (fun _ => hI.em _ _ _ hx hq (by omega)) (fun _ => .inl (by show 7 ≤ 7; decide)) (Nat.le_succ _) (by omega), Tr.calm hx hq rfl rfl rfl rfl rfl ?_ (.inr (.inl ⟨h6, rfl, .inr ⟨rfl, hcl⟩⟩))⟩, rfl, rfl, hd, rfl⟩, fun H hl => ?_⟩
  · rw [base6 h6]
    exact base7 rfl (by show clN x.cl ≠ 4; rw [hcl]; decide)
  · rw [sh_go hx hq (by show 9 ≤ 7 ↔ 9 ≤ x.st; omega), wkL_none (x := { x with st := 7 }) hcl]
    exact hl
set_option maxHeartbeats 4000000 in
theorem ws_scan_end (hE : EOk E) (hI : EI E s) (hx : s.X[w]? = some x) (hd : In64 draw) (hm : s.m ≤ 1000000000000) (h4 : x.st = 4) (he : x.x.f = x.x.t) :
    Does Tryz.prog 164 [ptr (E.wp w) 0] (wkL E x draw ++ shL E s s.tv sv) (StepP E s w sv) := by
  obtain ⟨hxk, hwW, hW2, hone, htv, q, hq⟩ := WFacts hE hI hx
  subst hxk
  obtain ⟨hcl, hpu⟩ := none14 (hI.wk _ _ hx).lo (.inr (.inr h4))
  rw [wkL_none hcl]
  refine Does.use (pre := [wkT E x draw .nilIface]) (scan_end (hI.wk _ _ hx).x1 he) (fun H hl => hl.perm (picks_perm (is := [0]) rfl)) ?_
  rintro v l ⟨rfl, rfl⟩
  refine ⟨_, ⟨rfl, _, _, draw, step_scan_end (m' := s.m + 1) hI hone hx hq h4 he false (Nat.le_succ _), rfl, rfl, hd, rfl⟩, fun H hl => ?_⟩
  rw [sh_go hx hq (by show 9 ≤ 5 ↔ 9 ≤ x.st; omega), wkL_none (x := { x with st := 5, scans := false }) hcl]
  exact hl
end steps
end Go.Proofs.YtfmkjbmogfhpbaaGreatDoor.Mk
set_option maxRecDepth 8000
namespace Go.Proofs.YtfmkjbmogfhpbaaGreatDoor.Mk
open Go.Sep
section steps
variable {E : EV} {s : MS} {w : Nat} {x x1 : WK} {draw sv : Int}
abbrev RchP (E : EV) (s : MS) (w : Nat) (x : WK) (draw : Int) (sv : Int) (v : Value) (l : List HP) : Prop :=
  v = .tuple #[] ∧ ∃ ms' tv' x', EN E s (s.go w w x' (s.D.getD w ⟨0, [], [], 0⟩) ms' s.nc s.sw s.sP s.sL tv' (s.m + 1)) w ∧ (9 ≤ x'.st ↔ 9 ≤ x.st) ∧
    l = wkL E x' draw ++ (mB E tv' sv :: Rd E :: (marksL E.pk E.bm E.n ms' ++ heapL E.p E.bw E.bs E.n E.ws E.T E.st))
theorem lead_cases {n T : Nat} {ws : List Int} {st : List Bool} {os : List RO} {ms : List Nat} (h : HT n T ws st) (hc : Ch ws 0 os T) {j : Nat} {o : RO} (hj : os[j]? = some o) : ∃ m : Nat, o.p = (m : Int) ∧ m ≤ o.ws.length ∧ o.ws.length ≤ 4095 ∧ o.i < T := by
  have hg := (hc.at hj).2.2.1
  have := hc.o_lt hj
  unfold goodB at hg
  simp at hg
  exact ⟨o.p.toNat, by omega, by omega, by omega, by omega⟩
set_option maxHeartbeats 8000000 in
theorem ws_reach (hE : EOk E) (hI : EI E s) (hx : s.X[w]? = some x) (hm : s.m ≤ 1000000000000) (hRd : Reads (Rd E) 1 E.W E.da E.dc (dptrs E)) {y : Int} (hEa : Eats E.W E.rts.length E.part E.os E.rts s.ms s.nc x x1 y)
    (hy : y = 0 ∨ ∃ (j : Nat) (o : RO), E.os[j]? = some o ∧ y = (o.i : Int) + 1 ∧ Rch E.os E.rts j) (next : Value) :
    Does Tryz.prog 120 [ptr (E.wp w) 0, .int .i64 y, fnV (fnM x1.st)] (wkB (E.wp x1.k) E.pM x1.k draw next x1.at_ x1.to x1.x.a x1.x.f x1.x.t x1.scans x1.push (thV x1.tn) .nilIface x1.victim x1.low x1.seen :: mB E s.tv sv :: Rd E :: (marksL E.pk E.bm E.n s.ms ++ heapL E.p E.bw E.bs E.n E.ws E.T E.st))
    (RchP E s w x draw sv) := by
  obtain ⟨hxk, hwW, hW2, hone, htv, q, hq⟩ := WFacts hE hI hx
  subst hxk
  have hgd : s.D.getD x.k ⟨0, [], [], 0⟩ = q := by rw [List.getD_eq_getElem?_getD, hq]; rfl
  have hk1 := hEa.k
  have hst := hEa.st
  have hst1 := hEa.st1
  have htn := hE.h.tn
  have hnb := hE.h.nb
  obtain ⟨hcl, hpu⟩ := none14 (hI.wk _ _ hx).lo (by rcases hst with e | e <;> simp [e])
  have hcl1 : x1.cl = .none := by rw [hEa.cl, hcl]
  have h9 : 9 ≤ x1.st ↔ 9 ≤ x.st := by omega
  rcases hy with rfl | ⟨j, o, hj, rfl, hrch⟩
  · refine Does.use (pre := [wkB (E.wp x1.k) E.pM x1.k draw next x1.at_ x1.to x1.x.a x1.x.f x1.x.t x1.scans x1.push (thV x1.tn) .nilIface x1.victim x1.low x1.seen]) (by rw [← hk1]; exact reach_zero (fnM x1.st)) (fun H hl => hl.perm (picks_perm (is := [0]) rfl)) ?_
    rintro v l ⟨rfl, rfl⟩
    refine ⟨_, ⟨rfl, s.ms, s.tv, x1, ?_, h9, rfl⟩, fun H hl => ?_⟩
    · rw [hgd]
      exact step_reach_old hI hone hx hq hEa hI.mi (fun _ e => e) (.inl rfl) (fun i hi => .inl hi) (Nat.le_succ _) (by omega)
    · rw [wkL_none hcl1]
      exact hl
  · obtain ⟨m, hp, hm1, hm2, hoT⟩ := lead_cases (ms := s.ms) hE.h hE.hc hj
    have hbs := fun i => bitB_set (j := i) hI.mi (show o.i < E.n by omega)
    have hup : ∀ i, bitB s.ms i = true → bitB (setM s.ms o.i) i = true := fun i hi => by rw [hbs, hi]; rfl
    have hself : bitB (setM s.ms o.i) o.i = true := by rw [hbs]; simp
    have hnew : ∀ i, bitB (setM s.ms o.i) i = true → bitB s.ms i = true ∨ i = o.i := fun i hi => by
      rw [hbs] at hi
      simpa using hi
    by_cases hold : bitB s.ms o.i = true ∨ o.p = 0
    · refine Does.use (pre := wkB (E.wp x1.k) E.pM x1.k draw next x1.at_ x1.to x1.x.a x1.x.f x1.x.t x1.scans x1.push (thV x1.tn) .nilIface x1.victim x1.low x1.seen :: mB E s.tv sv :: (marksL E.pk E.bm E.n s.ms ++ heapL E.p E.bw E.bs E.n E.ws E.T E.st)) (by rw [← hk1]; exact reach_old (fnM x1.st) hE.h hE.hc hI.mi hj (by constructor <;> omega) hold) (fun H hl => hl.perm (picks_perm (is := [0, 0, 1, 1, 1, 1, 1]) rfl)) ?_
      rintro v l ⟨rfl, rfl⟩
      refine ⟨_, ⟨rfl, setM s.ms o.i, s.tv + 1, x1, ?_, h9, rfl⟩, fun H hl => ?_⟩
      · rw [hgd]
        refine step_reach_old hI hone hx hq hEa (hI.mi.set (by omega)) hup (.inr ⟨j, o, hj, rfl, hself⟩) (fun i hi => ?_) (Nat.le_succ _) (by omega)
        rcases hnew i hi with h | h
        · exact .inl h
        · rcases hold with h2 | h2
          · exact .inl (by rw [h]; exact h2)
          · exact .inr ⟨j, o, hj, h.symm, hrch, h2⟩
      · rw [wkL_none hcl1]
        exact hl.pick (is := [0, 0, 5, 0, 0, 0, 0, 0]) rfl
    · have hb : bitB s.ms o.i = false := by
        cases h : bitB s.ms o.i with
        | false => rfl
        | true => exact absurd (.inl h) hold
      have hp0 : 0 < m := by
        have : o.p ≠ 0 := fun e => hold (.inr e)
        omega
      refine Does.use (pre := wkB (E.wp x1.k) E.pM x1.k draw next x1.at_ x1.to x1.x.a x1.x.f x1.x.t x1.scans x1.push (thV x1.tn) .nilIface x1.victim x1.low x1.seen :: mB E s.tv sv :: Rd E :: (marksL E.pk E.bm E.n s.ms ++ heapL E.p E.bw E.bs E.n E.ws E.T E.st)) (r := []) (by rw [← hk1]; exact reach_new x1.k (E.dp x1.k) m (fnM x1.st) hE.h hE.hc hI.mi hj (by constructor <;> omega) hb hp hp0 (by omega) hRd (dptr_at (by omega)) (by omega)) (fun H hl => by rw [List.append_nil]; exact hl) ?_
      rintro v l ⟨cc, rfl, rfl⟩
      refine ⟨_, ⟨rfl, setM s.ms o.i, s.tv + 1, newT x1 cc ⟨o.i, 0, m⟩, ?_, by show 9 ≤ 2 ↔ 9 ≤ x.st; omega, rfl⟩, fun H hl => ?_⟩
      · rw [hgd]
        exact step_reach_new hI hone hx hq hEa (hI.mi.set (by omega)) hup hj rfl hb hself hp hp0 (by omega) (by omega) hrch hnew cc (Nat.le_succ _) (by omega)
      · rw [List.append_nil] at hl
        have e : thV (newT x1 cc ⟨o.i, 0, m⟩).tn = fnV (fnM x1.st) := by
          show thV x1.st = _
          unfold thV
          rw [if_neg (by omega)]
        unfold wkL wkT
        rw [e]
        exact hl
set_option maxHeartbeats 8000000 in
theorem ws_scan (hE : EOk E) (hI : EI E s) (hx : s.X[w]? = some x) (hd : In64 draw) (hm : s.m ≤ 1000000000000) (hRd : Reads (Rd E) 1 E.W E.da E.dc (dptrs E)) (h4 : x.st = 4) :
    Does Tryz.prog 164 [ptr (E.wp w) 0] (wkL E x draw ++ shL E s s.tv sv) (StepP E s w sv) := by
  by_cases hlt : x.x.f < x.x.t
  rotate_left
  · have := (hI.wk _ _ hx).x1.ft
    exact ws_scan_end hE hI hx hd hm h4 (by omega)
  obtain ⟨hxk, hwW, hW2, hone, htv, q, hq⟩ := WFacts hE hI hx
  subst hxk
  have hgd : s.D.getD x.k ⟨0, [], [], 0⟩ = q := by rw [List.getD_eq_getElem?_getD, hq]; rfl
  obtain ⟨hcl, hpu⟩ := none14 (hI.wk _ _ hx).lo (.inr (.inr h4))
  obtain ⟨hok, j, o, hj, ha, hp, hb⟩ := ((hI.wk _ _ hx).x2 hlt).2
  obtain ⟨m, hpm, hm1, hm2, hoT⟩ := lead_cases (ms := s.ms) hE.h hE.hc hj
  have hfl : x.x.f < o.ws.length := by omega
  have hy : o.ws[x.x.f]? = some o.ws[x.x.f] := List.getElem?_eq_getElem hfl
  generalize o.ws[x.x.f] = y at hy
  have hat := (hE.hc.at hj).2
  obtain ⟨u0, u1, u2, u3, u4⟩ := packI_un hat.2.1
  have hso := Ch.start hE.h hE.hc (hE.h.zero.imp Eq.symm id) o (List.mem_of_getElem? hj)
  have hol := hE.hc.o_lt hj
  have hRead : Does Tryz.prog 93 [ptr E.p 0, .int .i64 (x.x.a : Nat), .int .i64 (x.x.f : Nat)] (heapL E.p E.bw E.bs E.n E.ws E.T E.st) (fun v l => v = .tuple #[.int .i64 y, .int .i64 0] ∧ l = heapL E.p E.bw E.bs E.n E.ws E.T E.st) := by
    rw [ha]
    refine Read_okT o.i x.x.f _ y hE.h hso hat.2.2.1 u1 (by rw [u3]; omega) (by rw [u3]; omega) ?_
    rw [hat.2.2.2.1 _ hfl]
    exact hy
  have hEa := eats_scan hI hone hx h4 hlt hj ha hy
  have hlead : y = 0 ∨ ∃ (j : Nat) (o : RO), E.os[j]? = some o ∧ y = (o.i : Int) + 1 ∧ Rch E.os E.rts j := by
    rcases leads_obj hE.h hE.hc hE.hr hj (k := x.x.f) (by omega) hy with h0 | ⟨j2, o2, hj2, hy2, _⟩
    · exact .inl h0
    · obtain ⟨j3, o3, hj3, he3, hr3⟩ := hI.rd _ hb
      have := Ch.one hE.hc hj3 hj he3
      subst this
      exact .inr ⟨j2, o2, hj2, hy2, .ref hr3 hj (by omega) hy hj2 hy2⟩
  have hR := ws_reach (draw := draw) (sv := sv) hE hI hx hm hRd hEa hlead (fnV (fnM x.st))
  rw [wkL_none hcl]
  have h4f : fnM x.st = 164 := by rw [h4]; rfl
  refine Does.use (pre := wkT E x draw .nilIface :: mB E s.tv sv :: Rd E :: (marksL E.pk E.bm E.n s.ms ++ heapL E.p E.bw E.bs E.n E.ws E.T E.st)) (post := RchP E s x.k x draw sv) (scan_word (P := fun l => ∃ ms' tv' x', EN E s (s.go x.k x.k x' (s.D.getD x.k ⟨0, [], [], 0⟩) ms' s.nc s.sw s.sP s.sL tv' (s.m + 1)) x.k ∧ (9 ≤ x'.st ↔ 9 ≤ x.st) ∧ l = wkL E x' draw ++ (mB E tv' sv :: Rd E :: (marksL E.pk E.bm E.n ms' ++ heapL E.p E.bw E.bs E.n E.ws E.T E.st))) (hI.wk _ _ hx).x1 hlt hRead (by rw [← h4f]; exact hR)) (fun H hl => hl.perm (picks_perm (is := [0, 0, 13, 3, 3, 0, 0, 0]) rfl)) ?_
  rintro v l ⟨rfl, ms', tv', x', hN, h9, rfl⟩
  refine ⟨_, ⟨rfl, _, x', draw, hN, rfl, rfl, hd, rfl⟩, fun H hl => ?_⟩
  rw [sh_go hx (by rw [hgd]; exact hq) h9]
  rw [List.append_assoc] at hl
  have h2 := hl.perm (List.perm_append_comm)
  have h3 := (h2.perm (picks_perm (is := [0, 3, 3, 3, 1, 1, 1, 1, 1, 1, 1, 1, 1, 1, 0, 0]) rfl)).perm (List.perm_append_comm)
  exact h3
end steps
end Go.Proofs.YtfmkjbmogfhpbaaGreatDoor.Mk
set_option maxRecDepth 8000
namespace Go.Proofs.YtfmkjbmogfhpbaaGreatDoor.Mk
open Go.Sep
section steps
variable {E : EV} {s : MS} {w : Nat} {x : WK} {draw sv : Int}
set_option maxHeartbeats 8000000 in
theorem ws_root (hE : EOk E) (hI : EI E s) (hx : s.X[w]? = some x) (hd : In64 draw) (hm : s.m ≤ 1000000000000) (hRd : Reads (Rd E) 1 E.W E.da E.dc (dptrs E)) (h1 : x.st = 1) :
    Does Tryz.prog 103 [ptr (E.wp w) 0] (wkL E x draw ++ shL E s s.tv sv) (StepP E s w sv) := by
  obtain ⟨hxk, hwW, hW2, hone, htv, q, hq⟩ := WFacts hE hI hx
  subst hxk
  have hgd : s.D.getD x.k ⟨0, [], [], 0⟩ = q := by rw [List.getD_eq_getElem?_getD, hq]; rfl
  have hwx := hI.wk _ _ hx
  obtain ⟨hcl, hpu⟩ := none14 hwx.lo (.inr (.inl h1))
  have hes : es x = 1 := by rw [es_of (by omega) (by omega)]; exact h1
  have hat := hwx.a3.2 hes
  have hto := hwx.a2
  have hR2 := hE.R2
  have hy : E.rts[x.at_]? = some (E.rts[x.at_]'(by omega)) := List.getElem?_eq_getElem _
  generalize E.rts[x.at_]'(by omega) = y at hy
  obtain ⟨tn, htn⟩ : ∃ tn, tn = if x.at_ + 1 = x.to then 0 else 1 := ⟨_, rfl⟩
  have hEa := eats_root hI hx h1 hy htn
  have hlead : y = 0 ∨ ∃ (j : Nat) (o : RO), E.os[j]? = some o ∧ y = (o.i : Int) + 1 ∧ Rch E.os E.rts j := by
    have hmem := List.mem_of_getElem? hy
    rcases hE.rt y hmem with h0 | ⟨j, o, hj, he, _⟩
    · exact .inl h0
    · exact .inr ⟨j, o, hj, he, .root hmem hj he⟩
  have hR := ws_reach (draw := draw) (sv := sv) hE hI hx hm hRd hEa hlead (fnV (fnM x.st))
  have hft : fnM tn = if x.at_ + 1 = x.to then 72 else 103 := by
    rw [htn]; split <;> rfl
  rw [wkL_none hcl]
  refine Does.use (pre := Rt.rootsZ E.pr E.rc E.rw s.nc E.ar E.cr E.rts E.part ++ (wkT E x draw .nilIface :: mB E s.tv sv :: Rd E :: (marksL E.pk E.bm E.n s.ms ++ heapL E.p E.bw E.bs E.n E.ws E.T E.st))) (root_word (P := fun l => ∃ ms' tv' x', EN E s (s.go x.k x.k x' (s.D.getD x.k ⟨0, [], [], 0⟩) ms' s.nc s.sw s.sP s.sL tv' (s.m + 1)) x.k ∧ (9 ≤ x'.st ↔ 9 ≤ x.st) ∧ l = wkL E x' draw ++ (mB E tv' sv :: Rd E :: (marksL E.pk E.bm E.n ms' ++ heapL E.p E.bw E.bs E.n E.ws E.T E.st))) x.at_ x.to hat (by omega) (by omega) hy (fnM tn) hft hR) (fun H hl => hl.perm (picks_perm (is := [7, 7, 7, 0, 0, 10, 3, 3, 0, 0, 0]) rfl)) ?_
  rintro v l ⟨rfl, l1, ⟨ms', tv', x', hN, h9, rfl⟩, rfl⟩
  refine ⟨_, ⟨rfl, _, x', draw, hN, rfl, rfl, hd, rfl⟩, fun H hl => ?_⟩
  rw [sh_go hx (by rw [hgd]; exact hq) h9]
  rw [List.append_assoc, List.append_assoc] at hl
  have h2 := hl.perm (List.perm_append_comm)
  have h3 := (h2.perm (picks_perm (is := [0, 3, 3, 3, 1, 1, 1, 1, 1, 1, 1, 1, 1, 1, 0, 0]) rfl)).perm (List.perm_append_comm)
  exact h3
theorem sh_goD {d : Nat} {q' : DQ} {x' : WK} {ms' : List Nat} {nc' : Nat} {sw' sP' : List Int} {sL' : Option Nat} {tv' m' : Nat} (hx : s.X[w]? = some x) (h9 : 9 ≤ x'.st ↔ 9 ≤ x.st) (tv sv : Int) :
    shL E (s.go w d x' q' ms' nc' sw' sP' sL' tv' m') tv sv = shT E tv sv ms' nc' sw' (cntX s.X : Nat) (idleX s.X) (bigM (dqH E) (s.D.set d q')) := by
  show shT E tv sv ms' nc' sw' (cntX (s.X.set w x') : Nat) (idleX (s.X.set w x')) (bigM (dqH E) (s.D.set d q')) = _
  rw [idle_set hx h9, cnt_same hx h9]
theorem deq_facts (hI : EI E s) {d : Nat} {q : DQ} (hq : s.D[d]? = some q) {k : Nat} {y : Dq.DK} {pu : Int} (hD : Dq.DHI E.W E.rm ((dcs E.W d s.X).set k y) pu bigN s.m q.ws q.P q.T) (hk : k < E.W) (hy : y.on = true) (hm : s.m ≤ 1000000000000) (hW2 : E.W ≤ 7) {pc bw dp : Nat} :
    y.k = k ∧ Does Tryz.prog 229 [ptr y.c 0] (dcL y.c dp y.k (nx (Dq.fnD y)) y.b y.t y.word 0 :: deqZ dp pc bw q.ws E.rm) (Dq.postD E.W E.rm dp pc bw ((dcs E.W d s.X).set k y) pu bigN s.m q.T k q.P y) := by
  have hl : k < (dcs E.W d s.X).length := by unfold dcs; rw [List.length_map, List.length_range]; exact hk
  have hx : ((dcs E.W d s.X).set k y)[k]? = some y := Dq.set_eq hl
  have hyk := hD.ck _ _ hx
  refine ⟨hyk, ?_⟩
  rw [hyk]
  exact Dq.StepDK_spec hD hm hk (by omega) hx hy
set_option maxHeartbeats 16000000 in
theorem ws_pushing (hE : EOk E) (hI : EI E s) (hx : s.X[w]? = some x) (hd : In64 draw) (hm : s.m ≤ 1000000000000) (h2 : x.st = 2) :
    Does Tryz.prog 158 [ptr (E.wp w) 0] (wkL E x draw ++ shL E s s.tv sv) (StepP E s w sv) := by
  obtain ⟨hxk, hwW, hW2, hone, htv, q, hq⟩ := WFacts hE hI hx
  subst hxk
  have hlo := (hI.wk _ _ hx).lo
  unfold WLoc at hlo
  rw [h2] at hlo
  obtain ⟨y, hcl, hon, hpush, hword, hpos, htn⟩ := hlo
  have hqk := hI.dk _ _ hq
  obtain ⟨pu, hD0⟩ := hI.dh _ _ hq
  have hi0 : idx E.W x.k x.k = 0 := (idx_zero hwW hwW).2 rfl
  have hg := dcs_get hwW hwW hx
  rw [hcl, clD_eq] at hg
  have hD : Dq.DHI E.W E.rm ((dcs E.W x.k s.X).set (idx E.W x.k x.k) y) pu bigN s.m q.ws q.P q.T := by rw [set_id hg]; exact hD0
  have hA : AtQ x.k x.k x y := .inl ⟨h2, rfl, hpush, hcl, hword, hpos, htn⟩
  have hdl : x.k < s.D.length := (List.getElem?_eq_some_iff.1 hq).1
  obtain ⟨hyk, hS⟩ := deq_facts (dp := E.dp q.k) (pc := E.dpc q.k) (bw := E.dbw q.k) hI hq hD (idx_lt hwW hwW) hon hm hW2
  have hth : thV x.tn = fnV (fnM x.tn) := by unfold thV; rw [if_neg (by omega)]
  have e0 : wkL E x draw = [wkB (E.wp x.k) E.pM x.k draw (fnV (fnM x.st)) x.at_ x.to x.x.a x.x.f x.x.t x.scans x.push (fnV (fnM x.tn)) (dqI y.c) x.victim x.low x.seen, dcL y.c (E.dp q.k) y.k (nx (Dq.fnD y)) y.b y.t y.word 0] := by
    unfold wkL wkT
    rw [hcl, hth, hqk]
  rw [e0]
  have hres : ∀ e l, (∃ b' t' w' ws' P' T', e = e ∧ Dq.DHI E.W E.rm (((dcs E.W x.k s.X).set (idx E.W x.k x.k) y).set (idx E.W x.k x.k) { y with on := false }) (if idx E.W x.k x.k = 0 then 0 else pu) bigN (s.m + 1) ws' P' T' ∧ Dq.EndD y (idx E.W x.k x.k) w' e q.P P' ∧ l = dcL y.c (E.dp q.k) (idx E.W x.k x.k : Nat) .nilFunc b' t' w' e :: deqZ (E.dp q.k) (E.dpc q.k) (E.dbw q.k) ws' E.rm) →
      ∃ w, Does Tryz.prog 228 [ptr y.c 0] l (fun v l' => v = .tuple #[.int .i64 w, .int .i64 e] ∧ l' = l) := by
    rintro e l ⟨b', t', w', ws', P', T', _, _, _, rfl⟩
    refine ⟨w', (ResultD_t.wide (L := dcL y.c (E.dp q.k) (idx E.W x.k x.k : Nat) .nilFunc b' t' w' e :: deqZ (E.dp q.k) (E.dpc q.k) (E.dbw q.k) ws' E.rm) [0] rfl).mono ?_⟩
    rintro v l ⟨_, ⟨rfl, rfl⟩, rfl⟩
    exact ⟨rfl, rfl⟩
  refine Does.use (pre := wkB (E.wp x.k) E.pM x.k draw (fnV (fnM x.st)) x.at_ x.to x.x.a x.x.f x.x.t x.scans x.push (fnV (fnM x.tn)) (dqI y.c) x.victim x.low x.seen :: mB E s.tv sv :: (dcL y.c (E.dp q.k) y.k (nx (Dq.fnD y)) y.b y.t y.word 0 :: deqZ (E.dp q.k) (E.dpc q.k) (E.dbw q.k) q.ws E.rm))
    (pushing_spec (Pm := fun l => ∃ y' ws', y'.on = true ∧ y'.c = y.c ∧ y'.k = idx E.W x.k x.k ∧ y'.push = y.push ∧ y.s < y'.s ∧ Dq.DHI E.W E.rm (((dcs E.W x.k s.X).set (idx E.W x.k x.k) y).set (idx E.W x.k x.k) y') pu bigN (s.m + 1) ws' q.P q.T ∧ l = dcL y.c (E.dp q.k) (idx E.W x.k x.k : Nat) (nx (Dq.fnD y')) y'.b y'.t y'.word 0 :: deqZ (E.dp q.k) (E.dpc q.k) (E.dbw q.k) ws' E.rm)
      (Pd := fun e l => ∃ b' t' w' ws' P' T', e = e ∧ Dq.DHI E.W E.rm (((dcs E.W x.k s.X).set (idx E.W x.k x.k) y).set (idx E.W x.k x.k) { y with on := false }) (if idx E.W x.k x.k = 0 then 0 else pu) bigN (s.m + 1) ws' P' T' ∧ Dq.EndD y (idx E.W x.k x.k) w' e q.P P' ∧ l = dcL y.c (E.dp q.k) (idx E.W x.k x.k : Nat) .nilFunc b' t' w' e :: deqZ (E.dp q.k) (E.dpc q.k) (E.dbw q.k) ws' E.rm)
      (fnM x.tn) (by omega) (by constructor <;> omega) (hS.mono ?_) hres) (fun H hl => (dq_out hq (hl.perm (picks_perm (is := [17]) rfl))).perm (picks_perm (is := [3, 4, 3, 0, 0]) rfl)) ?_
  · rintro v l (⟨y', ws', rfl, g1, g2, g3, g4, g5, g6, rfl⟩ | ⟨b', t', w', fault, ws', P', T', rfl, g1, g2, g3, rfl⟩)
    · exact .inl ⟨rfl, y', ws', g1, g2, g3, g4, g5, g6, rfl⟩
    · exact .inr ⟨fault, rfl, b', t', w', ws', P', T', rfl, g1, g2, rfl⟩
  rintro v l ⟨rfl, D', ⟨⟨y', ws', g1, g2, g3, g4, g5, g6, rfl⟩, rfl⟩ | ⟨⟨b', t', w', ws', P', T', _, g1, g2, rfl⟩, rfl⟩ | ⟨e, sc, he, ⟨b', t', w', ws', P', T', _, g1, g2, rfl⟩, rfl⟩⟩
  · rw [List.set_set] at g6
    refine ⟨_, ⟨rfl, _, _, draw, step_dq_more (tv' := s.tv + 1) hI hone hx hwW hq hA hD hon g1 g4 g5 g6 (Nat.le_succ _) (by omega), rfl, rfl, hd, rfl⟩, fun H hl => ?_⟩
    have h1 := hl.perm (picks_perm (is := [3, 3, 3]) rfl)
    have h3 := dq_back (E := E) (q := { q with ws := ws' }) hdl h1
    have e2 : wkL E { x with cl := .dq x.k y' } draw = [wkB (E.wp x.k) E.pM x.k draw (fnV (fnM x.st)) x.at_ x.to x.x.a x.x.f x.x.t x.scans x.push (fnV (fnM x.tn)) (dqI y.c) x.victim x.low x.seen, dcL y.c (E.dp q.k) (idx E.W x.k x.k : Nat) (nx (Dq.fnD y')) y'.b y'.t y'.word 0] := by
      unfold wkL wkT callV callL
      dsimp only
      rw [hth, hqk, g2, g3]
    rw [sh_goD (x' := { x with cl := .dq x.k y' }) hx Iff.rfl, e2]
    exact h3.pick (is := [1, 2, 1, 1, 1, 1, 1, 1, 1, 1, 1, 1, 1, 1, 1, 1, 1, 0]) rfl
  · have hP : P' = q.P ++ [y.word] := by
      rcases g2 with ⟨_, _, ⟨_, h⟩ | ⟨h, _⟩⟩ | ⟨h, _⟩
      · exact h
      · cases h
      · rw [hpush] at h; cases h
    subst hP
    rw [hi0, if_pos rfl, List.set_set] at g1
    refine ⟨_, ⟨rfl, _, _, draw, step_push_ok (tv' := s.tv + 1) hI hone hx hq hA h2 hD hon (by rw [hi0]; exact g1) (Nat.le_succ _) (by omega), rfl, rfl, hd, rfl⟩, fun H hl => ?_⟩
    have h1 := hl.perm (picks_perm (is := [3, 3, 3]) rfl)
    have h3 := dq_back (E := E) (q := { q with ws := ws', P := q.P ++ [y.word], T := T' }) hdl h1
    rw [sh_goD hx (by show 9 ≤ x.tn ↔ 9 ≤ x.st; omega), wkL_none (x := { x with st := x.tn, push := 0, cl := .none }) rfl]
    unfold wkT
    dsimp only
    rw [hth]
    exact h3.pick (is := [1, 1, 2, 2, 2, 2, 2, 2, 2, 2, 2, 2, 2, 2, 2, 2, 0]) rfl
  · have hP : P' = q.P := by
      rcases g2 with ⟨_, _, ⟨h, _⟩ | ⟨_, h⟩⟩ | ⟨h, _⟩
      · exact absurd h he
      · exact h
      · rw [hpush] at h; cases h
    subst hP
    rw [hi0, if_pos rfl, List.set_set] at g1
    refine ⟨_, ⟨rfl, _, _, draw, step_push_full (tv' := s.tv + 1) hI hone hx hq hA h2 hD hon (by rw [hi0]; exact g1) sc (Nat.le_succ _) (by omega), rfl, rfl, hd, rfl⟩, fun H hl => ?_⟩
    have h1 := hl.perm (picks_perm (is := [4, 4, 4]) rfl)
    have h3 := dq_back (E := E) (q := { q with ws := ws', T := T' }) hdl h1
    have e2 : wkL E { x with st := 3, cl := .sp ⟨x.k, true, sc, x.push, 0, 0, x.push⟩ } draw = [wkB (E.wp x.k) E.pM x.k draw (fnV 177) x.at_ x.to x.x.a x.x.f x.x.t x.scans x.push (fnV (fnM x.tn)) (spI sc) x.victim x.low x.seen, Sp.scL sc E.pp x.k true 0 0 x.push false 0] := by
      unfold wkL wkT callV callL
      dsimp only
      rw [hth, decide_eq_true hpos]
      rfl
    rw [sh_goD hx (by show 9 ≤ 3 ↔ 9 ≤ x.st; omega), e2]
    exact h3.pick (is := [2, 1, 1, 2, 2, 2, 2, 2, 2, 2, 2, 2, 2, 2, 2, 2, 2, 0]) rfl
end steps
end Go.Proofs.YtfmkjbmogfhpbaaGreatDoor.Mk
set_option maxRecDepth 8000
namespace Go.Proofs.YtfmkjbmogfhpbaaGreatDoor.Mk
open Go.Sep
section steps
variable {E : EV} {s : MS} {w d : Nat} {x : WK} {q : DQ} {y : Dq.DK} {draw sv : Int}
abbrev dmP (E : EV) (s : MS) (w d : Nat) (x : WK) (q : DQ) (cc : Nat) (l : List HP) : Prop :=
  ∃ y' ws', y'.c = cc ∧ EN E s (s.go w d { x with cl := .dq d y' } { q with ws := ws' } s.ms s.nc s.sw s.sP s.sL (s.tv + 1) (s.m + 1)) w ∧ l = dcL cc (E.dp q.k) y'.k (nx (Dq.fnD y')) y'.b y'.t y'.word 0 :: deqZ (E.dp q.k) (E.dpc q.k) (E.dbw q.k) ws' E.rm
abbrev dnP (E : EV) (s : MS) (w d : Nat) (x : WK) (q : DQ) (l : List HP) : Prop :=
  ∃ dc ws' T', EN E s (s.go w d { x with st := x.st + 1, cl := .none } { q with ws := ws', T := T' } s.ms s.nc s.sw s.sP s.sL (s.tv + 1) (s.m + 1)) w ∧ l = dc :: deqZ (E.dp q.k) (E.dpc q.k) (E.dbw q.k) ws' E.rm
abbrev dtP (E : EV) (s : MS) (w d : Nat) (x : WK) (q : DQ) (t : TK) (l : List HP) : Prop :=
  ∃ dc ws' P' T' u, tkOf u = t ∧ (¬ t.f + E.K < t.t → EN E s (s.go w d (withT x u) { q with ws := ws', P := P', T := T' } s.ms s.nc s.sw s.sP s.sL (s.tv + 1) (s.m + 1)) w) ∧
    (t.f + E.K < t.t → ∀ cc, EN E s (s.go w d (splitT (withT x u) E.K cc) { q with ws := ws', P := P', T := T' } s.ms s.nc s.sw s.sP s.sL (s.tv + 1) (s.m + 1)) w) ∧ l = dc :: deqZ (E.dp q.k) (E.dpc q.k) (E.dbw q.k) ws' E.rm
set_option maxHeartbeats 8000000 in
theorem deq_calls (hE : EOk E) (hI : EI E s) (hx : s.X[w]? = some x) (hd : d < E.W) (hq : s.D[d]? = some q) (hA : AtQ w d x y) (hst : x.st ≠ 2) {pu : Int} (hD : Dq.DHI E.W E.rm ((dcs E.W d s.X).set (idx E.W w d) y) pu bigN s.m q.ws q.P q.T) (hon : y.on = true) (hm : s.m ≤ 1000000000000) :
    y.k = idx E.W w d ∧ Calls 229 228 y.c (dcL y.c (E.dp q.k) y.k (nx (Dq.fnD y)) y.b y.t y.word 0 :: deqZ (E.dp q.k) (E.dpc q.k) (E.dbw q.k) q.ws E.rm) (dmP E s w d x q y.c) (dnP E s w d x q) (dtP E s w d x q) := by
  obtain ⟨hxk, hwW, hW2, hone, htv, _⟩ := WFacts hE hI hx
  have hil := idx_lt hwW hd
  have hi0 := idx_zero hwW hd
  obtain ⟨hyk, hS⟩ := deq_facts (dp := E.dp q.k) (pc := E.dpc q.k) (bw := E.dbw q.k) hI hq hD hil hon hm hW2
  have hpush : y.push = false := by
    rcases hA with ⟨h, _⟩ | ⟨_, _, h, _⟩ | ⟨_, _, h, _⟩
    · exact absurd h hst
    · exact h
    · exact h
  have hx56 : (x.st = 5 ∨ x.st = 6) ∧ x.push = 0 := by
    rcases hA with ⟨h, _⟩ | ⟨h, _, _, hp, _⟩ | ⟨h, _, _, hp, _⟩
    · exact absurd h hst
    · exact ⟨.inl h, hp⟩
    · exact ⟨.inr h, hp⟩
  refine ⟨hyk, ⟨fun l => ∃ b' t' w' fault ws' P' T', Dq.DHI E.W E.rm ((dcs E.W d s.X).set (idx E.W w d) { y with on := false }) (if idx E.W w d = 0 then 0 else pu) bigN (s.m + 1) ws' P' T' ∧ Dq.EndD y (idx E.W w d) w' fault q.P P' ∧ ((P' = q.P → 0 < idx E.W w d → T' = q.T) ∧ (idx E.W w d = 0 → y.push = false → fault ≠ 0 → P' = [])) ∧ l = dcL y.c (E.dp q.k) (idx E.W w d : Nat) .nilFunc b' t' w' fault :: deqZ (E.dp q.k) (E.dpc q.k) (E.dbw q.k) ws' E.rm, hS.mono ?_, ?_⟩⟩
  · rintro v l (⟨y', ws', rfl, g1, g2, g3, g4, g5, g6, rfl⟩ | ⟨b', t', w', fault, ws', P', T', rfl, g1, g2, g3, rfl⟩)
    · rw [List.set_set] at g6
      exact .inl ⟨rfl, y', ws', g2, step_dq_more (tv' := s.tv + 1) hI hone hx hd hq hA hD hon g1 g4 g5 g6 (Nat.le_succ _) (by omega), by rw [← g3]⟩
    · rw [List.set_set] at g1
      exact .inr ⟨rfl, b', t', w', fault, ws', P', T', g1, g2, g3, rfl⟩
  · rintro l ⟨b', t', w', fault, ws', P', T', g1, g2, ⟨g3, g4⟩, rfl⟩
    refine ⟨w', fault, (ResultD_t.wide (L := dcL y.c (E.dp q.k) (idx E.W w d : Nat) .nilFunc b' t' w' fault :: deqZ (E.dp q.k) (E.dpc q.k) (E.dbw q.k) ws' E.rm) [0] rfl).mono (fun v l => by rintro ⟨_, ⟨rfl, rfl⟩, rfl⟩; exact ⟨rfl, rfl⟩), ?_⟩
    rcases g2 with ⟨h, _⟩ | ⟨_, ⟨rfl, hmem, hcnt⟩ | ⟨rfl, rfl, hf⟩⟩
    · rw [hpush] at h; cases h
    · right
      refine ⟨rfl, ?_⟩
      have hperm : q.P.Perm (w' :: P') := by
        rw [List.perm_iff_count]
        intro z
        rw [hcnt z, Dq.count_cons']
      have hx1 : s.X[w]? = some x := hx
      have hkl : idx E.W w d < (dcs E.W d s.X).length := by unfold dcs; rw [List.length_map, List.length_range]; exact hil
      have hh : hand x = [] := by
        unfold hand
        rw [hA.tk, if_pos hx56.2]
        rfl
      have hG := got (K := E.K) (tv' := s.tv + 1) (m' := s.m + 1) (q' := { q with ws := ws', P := P', T := T' }) (sw' := s.sw) (sP' := s.sP) (sL' := s.sL) (u := w') hI hone hx hd hq ⟨by omega, by omega⟩ hx56.2 rfl
        ⟨_, by rw [dcs_set hwW hd hI.xl]; exact DHI_off g1 hkl rfl⟩ (fun e he k => hA.ne he k) (by rw [scs_same (x' := withT x w') hx (by rw [hA.sp]; rfl)]; exact hI.sh)
        (by rw [hh, List.append_nil]; exact List.mem_append_left _ hmem) (.inl rfl)
        (fun v hv => by
          rw [hh, List.append_nil] at hv
          rcases List.mem_append.1 hv with hv | hv
          · rcases List.mem_cons.1 (hperm.mem_iff.1 hv) with h | h
            · exact .inl h
            · exact .inr (List.mem_append_left _ h)
          · exact .inr (List.mem_append_right _ hv))
        (fun v hv => by
          rw [hh, List.append_nil]
          rcases List.mem_append.1 hv with hv | hv
          · exact List.mem_append_left _ (hperm.mem_iff.2 (.tail _ hv))
          · exact List.mem_append_right _ hv)
        (fun e => by rw [e] at hperm; have := hperm.length_eq; simp at this) (Nat.le_succ _) (by omega)
        (by
          rw [phiP_perm hperm, phiP_cons]
          show phiP 12 P' + phiP 10 s.sP + 200 * lenW w' + 9 ≤ _
          omega) hE.K1
      obtain ⟨k1, k2, k3, k4⟩ := hG
      exact ⟨tkOf w', k1, k2, _, ws', P', T', w', rfl, k3, k4, rfl⟩
    · left
      refine ⟨by omega, _, ws', T', step_dq_none (tv' := s.tv + 1) hI hone hx hd hq hA hst hD hon g1 (g3 rfl) (fun e => g4 e hpush (by omega)) (Nat.le_succ _) (by omega), rfl⟩
set_option maxHeartbeats 8000000 in
theorem try_shut (hI : EI E s) (hx : s.X[w]? = some x) (hd64 : In64 draw) (hq : s.D[d]? = some q) (hxk : x.k = w) (hst : x.st = 5 ∨ x.st = 6) (hpd : x.cl = .none ∨ ∃ y, x.cl = .dq d y) {v : Value} {l : List HP}
    (h : tryP dqI (E.wp w) E.pM w draw (fnV (fnM x.st)) x.at_ x.to x.x.a x.x.f x.x.t x.scans x.push (thV x.tn) x.victim x.low x.seen (mB E ((s.tv : Int) + 1) sv) (Rd E) (E.dp w) E.K (fnM (x.st + 1)) (dmP E s w d x q) (dnP E s w d x q) (dtP E s w d x q) v l) :
    ∃ l', StepP E s w sv v l' ∧ ∀ H, Stars (l ++ (bigM (dqH E) (s.D.eraseIdx d) :: (heapL E.p E.bw E.bs E.n E.ws E.T E.st ++ (marksL E.pk E.bm E.n s.ms ++ (Rt.rootsZ E.pr E.rc E.rw s.nc E.ar E.cr E.rts E.part ++ (Sp.spillZ E.pp E.qpc E.qbw s.sw E.rS ++ Of.offerZ E.po E.qc E.qw E.qi (cntX s.X : Nat) (idleX s.X))))))) H → Stars l' H := by
  subst hxk
  have hdl : d < s.D.length := (List.getElem?_eq_some_iff.1 hq).1
  have hqk := hI.dk _ _ hq
  obtain ⟨rfl, D', ⟨cc, ⟨y', ws', rfl, hN, rfl⟩, rfl⟩ | ⟨⟨dc, ws', T', hN, rfl⟩, rfl⟩ | ⟨t, ⟨dc, ws', P', T', u, ht, hN1, hN2, rfl⟩, ⟨hs, rfl⟩ | ⟨hs, cc, rfl⟩⟩⟩ := h
  · refine ⟨_, ⟨rfl, _, _, draw, hN, rfl, rfl, hd64, rfl⟩, fun H hl => ?_⟩
    have h1 := hl.perm (picks_perm (is := [4, 4, 4]) rfl)
    have h3 := dq_back (E := E) (q := { q with ws := ws' }) hdl h1
    have e2 : wkL E { x with cl := .dq d y' } draw = [wkT E x draw (dqI y'.c), dcL y'.c (E.dp q.k) y'.k (nx (Dq.fnD y')) y'.b y'.t y'.word 0] := by
      unfold wkL wkT callV callL
      dsimp only
      rw [hqk]
    rw [sh_goD (x' := { x with cl := .dq d y' }) hx Iff.rfl, e2]
    exact h3.pick (is := [1, 3, 1, 2, 2, 2, 2, 2, 2, 2, 2, 2, 2, 2, 2, 2, 1, 0]) rfl
  · refine ⟨_, ⟨rfl, _, _, draw, hN, rfl, rfl, hd64, rfl⟩, fun H hl => ?_⟩
    have h1 := hl.perm (picks_perm (is := [4, 4, 4]) rfl)
    have h3 := dq_back (E := E) (q := { q with ws := ws', T := T' }) hdl h1
    rw [sh_goD (x' := { x with st := x.st + 1, cl := .none }) hx (by show 9 ≤ x.st + 1 ↔ 9 ≤ x.st; omega), wkL_none (x := { x with st := x.st + 1, cl := .none }) rfl]
    exact h3.pick (is := [1, 1, 3, 3, 3, 3, 3, 3, 3, 3, 3, 3, 3, 3, 3, 1, 0]) rfl
  · subst ht
    refine ⟨_, ⟨rfl, _, _, draw, hN1 hs, rfl, rfl, hd64, rfl⟩, fun H hl => ?_⟩
    have h1 := hl.perm (picks_perm (is := [4, 4, 4]) rfl)
    have h3 := dq_back (E := E) (q := { q with ws := ws', P := P', T := T' }) hdl h1
    rw [sh_goD (x' := withT x u) hx (by show 9 ≤ 4 ↔ 9 ≤ x.st; omega), wkL_none (x := withT x u) rfl]
    exact h3.pick (is := [1, 1, 3, 3, 3, 3, 3, 3, 3, 3, 3, 3, 3, 3, 3, 1, 0]) rfl
  · subst ht
    refine ⟨_, ⟨rfl, _, _, draw, hN2 hs cc, rfl, rfl, hd64, rfl⟩, fun H hl => ?_⟩
    have h1 := hl.perm (picks_perm (is := [5, 5, 5]) rfl)
    have h3 := dq_back (E := E) (q := { q with ws := ws', P := P', T := T' }) hdl h1
    rw [sh_goD (x' := splitT (withT x u) E.K cc) hx (by show 9 ≤ 2 ↔ 9 ≤ x.st; omega)]
    exact h3.pick (is := [1, 1, 1, 3, 3, 3, 3, 3, 3, 3, 3, 3, 3, 3, 3, 3, 1, 0]) rfl
end steps
end Go.Proofs.YtfmkjbmogfhpbaaGreatDoor.Mk
set_option maxRecDepth 8000
namespace Go.Proofs.YtfmkjbmogfhpbaaGreatDoor.Mk
open Go.Sep
section steps
variable {E : EV} {s : MS} {w d : Nat} {x : WK} {draw sv : Int}
set_option maxHeartbeats 8000000 in
theorem ws_pop (hE : EOk E) (hI : EI E s) (hx : s.X[w]? = some x) (hd : In64 draw) (hm : s.m ≤ 1000000000000) (hRd : Reads (Rd E) 1 E.W E.da E.dc (dptrs E)) (h5 : x.st = 5) :
    Does Tryz.prog 104 [ptr (E.wp w) 0] (wkL E x draw ++ shL E s s.tv sv) (StepP E s w sv) := by
  obtain ⟨hxk, hwW, hW2, hone, htv, q, hq⟩ := WFacts hE hI hx
  subst hxk
  have hK2 := hE.K2
  have hlo := (hI.wk _ _ hx).lo
  unfold WLoc at hlo
  rw [h5] at hlo
  obtain ⟨hpu, hc⟩ := hlo
  have hqk := hI.dk _ _ hq
  obtain ⟨pu, hD0⟩ := hI.dh _ _ hq
  have hi0 : idx E.W x.k x.k = 0 := (idx_zero hwW hwW).2 rfl
  have hg := dcs_get hwW hwW hx
  have h6 : fnM (x.st + 1) = 123 := by rw [h5]; rfl
  rcases hc with hcl | ⟨y, hcl, hon, hpush⟩
  · have hof := own_off hI hx hcl
    have hC : ∀ cc, Calls 229 228 cc (dcL cc (E.dp x.k) 0 (nx 142) 0 0 0 0 :: deqZ (E.dp q.k) (E.dpc q.k) (E.dbw q.k) q.ws E.rm) (dmP E s x.k x.k x q cc) (dnP E s x.k x.k x q) (dtP E s x.k x.k x q) := by
      intro cc
      have e : E.dp x.k = E.dp q.k := by rw [hqk]
      rw [e]
      have hD : Dq.DHI E.W E.rm ((dcs E.W x.k s.X).set (idx E.W x.k x.k) ⟨0, true, false, cc, 0, 0, 0, 0⟩) pu bigN s.m q.ws q.P q.T := by rw [hi0]; exact DHI_pop hD0 hof cc
      exact (deq_calls hE hI hx hwW hq (.inr (.inl ⟨h5, rfl, rfl, hpu, .inr ⟨hcl, rfl⟩⟩)) (by omega) hD rfl hm).2
    rw [wkL_none hcl]
    refine Does.use (pre := wkT E x draw .nilIface :: mB E s.tv sv :: Rd E :: deqZ (E.dp q.k) (E.dpc q.k) (E.dbw q.k) q.ws E.rm) (pop_new x.k (E.dp x.k) E.K hE.K1 (by omega) hRd (dptr_at hwW) hwW (by constructor <;> omega) hC) (fun H hl => (dq_out hq (hl.perm (picks_perm (is := [16]) rfl))).perm (picks_perm (is := [3, 3, 16, 0, 0]) rfl)) ?_
    intro v l h
    exact try_shut hI hx hd hq rfl (.inl h5) (.inl hcl) (by rw [h6]; exact h)
  · rw [hcl, clD_eq] at hg
    have hD : Dq.DHI E.W E.rm ((dcs E.W x.k s.X).set (idx E.W x.k x.k) y) pu bigN s.m q.ws q.P q.T := by rw [set_id hg]; exact hD0
    have hC := (deq_calls hE hI hx hwW hq (.inr (.inl ⟨h5, rfl, hpush, hpu, .inl hcl⟩)) (by omega) hD hon hm).2
    have e0 : wkL E x draw = [wkT E x draw (dqI y.c), dcL y.c (E.dp q.k) y.k (nx (Dq.fnD y)) y.b y.t y.word 0] := by
      unfold wkL
      rw [hcl, hqk]
    rw [e0]
    refine Does.use (pre := wkT E x draw (dqI y.c) :: mB E s.tv sv :: Rd E :: (dcL y.c (E.dp q.k) y.k (nx (Dq.fnD y)) y.b y.t y.word 0 :: deqZ (E.dp q.k) (E.dpc q.k) (E.dbw q.k) q.ws E.rm)) (pop_more x.k (E.dp x.k) E.K hE.K1 (by omega) hRd (dptr_at hwW) hwW (by constructor <;> omega) hC) (fun H hl => (dq_out hq (hl.perm (picks_perm (is := [17]) rfl))).perm (picks_perm (is := [3, 4, 17, 3, 0, 0]) rfl)) ?_
    intro v l h
    exact try_shut hI hx hd hq rfl (.inl h5) (.inr ⟨y, hcl⟩) (by rw [h6]; exact h)
set_option maxHeartbeats 8000000 in
theorem ws_steal (hE : EOk E) (hI : EI E s) (hx : s.X[w]? = some x) (hd : In64 draw) (hm : s.m ≤ 1000000000000) (hRd : Reads (Rd E) 1 E.W E.da E.dc (dptrs E)) (h6 : x.st = 6) :
    Does Tryz.prog 123 [ptr (E.wp w) 0] (wkL E x draw ++ shL E s s.tv sv) (StepP E s w sv) := by
  by_cases hW1 : E.W = 1
  · exact ws_steal1 hE hI hx hd hm hW1 h6
  obtain ⟨hxk, hwW, hW2, hone, htv, _⟩ := WFacts hE hI hx
  subst hxk
  have hK2 := hE.K2
  have hW0 := hE.W1
  have hlo := (hI.wk _ _ hx).lo
  unfold WLoc at hlo
  rw [h6] at hlo
  obtain ⟨hpu, hc⟩ := hlo
  have h7 : fnM (x.st + 1) = 144 := by rw [h6]; rfl
  rcases hc with hcl | ⟨d, y, hcl, hdW, hdk, hon, hpush⟩
  · obtain ⟨_, v2, v3, _⟩ := vic_ok (draw := draw) (show 2 ≤ E.W by omega) (by omega) hwW
    generalize hvd : vicI E.W x.k draw = d at v2 v3
    obtain ⟨q, hq⟩ : ∃ q, s.D[d]? = some q := ⟨s.D[d]'(by have := hI.dl; omega), List.getElem?_eq_getElem _⟩
    have hqk := hI.dk _ _ hq
    obtain ⟨pu, hD0⟩ := hI.dh _ _ hq
    have hil := idx_lt hwW v2
    have hi0 : idx E.W x.k d ≠ 0 := fun e => v3 ((idx_zero hwW v2).1 e).symm
    have hC : ∀ cc, Calls 229 228 cc (dcL cc (E.dp q.k) (idx E.W x.k (vicI E.W x.k draw) : Nat) (nx 167) 0 0 0 0 :: deqZ (E.dp q.k) (E.dpc q.k) (E.dbw q.k) q.ws E.rm) (dmP E s x.k d x q cc) (dnP E s x.k d x q) (dtP E s x.k d x q) := by
      intro cc
      rw [hvd]
      have hD : Dq.DHI E.W E.rm ((dcs E.W d s.X).set (idx E.W x.k d) ⟨idx E.W x.k d, true, false, cc, 0, 0, 0, 0⟩) pu bigN s.m q.ws q.P q.T := DHI_steal hD0 (by omega) hil cc
      have h := (deq_calls hE hI hx v2 hq (.inr (.inr ⟨h6, v3, rfl, hpu, .inr ⟨hcl, rfl⟩⟩)) (by omega) hD rfl hm).2
      have hf : Dq.fnD ⟨idx E.W x.k d, true, false, cc, 0, 0, 0, 0⟩ = 167 := by
        unfold Dq.fnD
        rw [if_neg hi0]
        rfl
      rw [hf] at h
      exact h
    rw [wkL_none hcl]
    refine Does.use (pre := wkT E x draw .nilIface :: mB E s.tv sv :: Rd E :: deqZ (E.dp q.k) (E.dpc q.k) (E.dbw q.k) q.ws E.rm) (steal_new x.k (E.dp x.k) E.K hE.K1 (by omega) (by omega) (by omega) hRd (dptr_at hwW) hwW (by constructor <;> omega) (by rw [hvd, hqk]; exact dptr_at v2) hC) (fun H hl => (dq_out hq (hl.perm (picks_perm (is := [16]) rfl))).perm (picks_perm (is := [3, 3, 16, 0, 0]) rfl)) ?_
    intro v l h
    exact try_shut hI hx hd hq rfl (.inr h6) (.inl hcl) (by rw [h7]; exact h)
  · obtain ⟨q, hq⟩ : ∃ q, s.D[d]? = some q := ⟨s.D[d]'(by have := hI.dl; omega), List.getElem?_eq_getElem _⟩
    have hqk := hI.dk _ _ hq
    obtain ⟨pu, hD0⟩ := hI.dh _ _ hq
    have hg := dcs_get hwW hdW hx
    rw [hcl, clD_eq] at hg
    have hD : Dq.DHI E.W E.rm ((dcs E.W d s.X).set (idx E.W x.k d) y) pu bigN s.m q.ws q.P q.T := by rw [set_id hg]; exact hD0
    have hC := (deq_calls hE hI hx hdW hq (.inr (.inr ⟨h6, hdk, hpush, hpu, .inl hcl⟩)) (by omega) hD hon hm).2
    have e0 : wkL E x draw = [wkT E x draw (dqI y.c), dcL y.c (E.dp q.k) y.k (nx (Dq.fnD y)) y.b y.t y.word 0] := by
      unfold wkL
      rw [hcl, hqk]
    rw [e0]
    refine Does.use (pre := wkT E x draw (dqI y.c) :: mB E s.tv sv :: Rd E :: (dcL y.c (E.dp q.k) y.k (nx (Dq.fnD y)) y.b y.t y.word 0 :: deqZ (E.dp q.k) (E.dpc q.k) (E.dbw q.k) q.ws E.rm)) (steal_more x.k (E.dp x.k) E.K hE.K1 (by omega) (by omega) hRd (dptr_at hwW) hwW (by constructor <;> omega) hC) (fun H hl => (dq_out hq (hl.perm (picks_perm (is := [17]) rfl))).perm (picks_perm (is := [3, 4, 17, 3, 0, 0]) rfl)) ?_
    intro v l h
    exact try_shut hI hx hd hq rfl (.inr h6) (.inr ⟨y, hcl⟩) (by rw [h7]; exact h)
end steps
end Go.Proofs.YtfmkjbmogfhpbaaGreatDoor.Mk
set_option maxRecDepth 8000
namespace Go.Proofs.YtfmkjbmogfhpbaaGreatDoor.Mk
open Go.Sep
theorem MoreS_keep {rm k : Nat} {x x' : Sp.SK} {P P' : List Int} {L L' : Option Nat} (h : Sp.MoreS rm k x x' P P' L L') : x'.c = x.c ∧ x'.w = x.w ∧ x'.k = x.k := by
  rcases h with ⟨_, _, rfl, _⟩ | ⟨_, _, rfl, _⟩ | ⟨_, _, rfl, _⟩ | ⟨_, _, _, _, rfl, _⟩ | ⟨_, _, _, ⟨_, _, _, rfl⟩, _⟩ | ⟨_, _, _, rfl, _⟩ | ⟨_, _, _, rfl, _⟩ <;> exact ⟨rfl, rfl, rfl⟩
section steps
variable {E : EV} {s : MS} {w : Nat} {x : WK} {q : DQ} {y : Sp.SK} {draw sv : Int}
abbrev smP (E : EV) (s : MS) (w : Nat) (x : WK) (q : DQ) (cc : Nat) (l : List HP) : Prop :=
  ∃ y' sw' P' L', y'.c = cc ∧ EN E s (s.go w w { x with cl := .sp y' } q s.ms s.nc sw' P' L' (s.tv + 1) (s.m + 1)) w ∧ l = Sp.scL cc E.pp y'.k (decide (0 < y'.w)) y'.s y'.n y'.word false 0 :: Sp.spillZ E.pp E.qpc E.qbw sw' E.rS
theorem sp_facts (hE : EOk E) (hI : EI E s) (hx : s.X[w]? = some x) (hS : Sp.SHI E.W E.rS ((scs s.X).set w y) s.sw s.sP s.sL) (hon : y.on = true) :
    y.k = w ∧ Does Tryz.prog 232 [ptr y.c 0] (Sp.scL y.c E.pp w (decide (0 < y.w)) y.s y.n y.word false 0 :: Sp.spillZ E.pp E.qpc E.qbw s.sw E.rS)
    (fun v l => (∃ x' ws' P' L', v = .bool false ∧ Sp.SHI E.W E.rS (((scs s.X).set w y).set w x') ws' P' L' ∧ Sp.MoreS E.rS w y x' s.sP P' s.sL L' ∧ l = Sp.scL y.c E.pp w (decide (0 < y.w)) x'.s x'.n x'.word false 0 :: Sp.spillZ E.pp E.qpc E.qbw ws' E.rS) ∨
      (∃ (s' fault : Int), v = .bool true ∧ s.sL = some w ∧ Sp.SHI E.W E.rS (((scs s.X).set w y).set w { y with on := false }) (s.sw.set 0 0) s.sP none ∧ ((fault = 0 ∧ y.s = 4) ∨ (fault = 6 ∧ 0 < y.w ∧ y.s = 2 ∧ E.rS ≤ s.sP.length) ∨ (fault = 7 ∧ y.w = 0 ∧ y.s = 2 ∧ s.sP = [])) ∧
        l = Sp.scL y.c E.pp w (decide (0 < y.w)) s' y.n y.word true fault :: Sp.spillZ E.pp E.qpc E.qbw (s.sw.set 0 0) E.rS)) := by
  have hl : w < (scs s.X).length := (List.getElem?_eq_some_iff.1 (scs_get hx)).1
  have hg : ((scs s.X).set w y)[w]? = some y := Dq.set_eq hl
  have hk := hS.ck _ _ hg
  refine ⟨hk, ?_⟩
  have hW := hE.W2
  have hwW : w < E.W := by have := (List.getElem?_eq_some_iff.1 hx).1; have := hI.xl; omega
  exact Sp.StepK_spec hS (by omega) hg hon
set_option maxHeartbeats 16000000 in
theorem ws_spilling (hE : EOk E) (hI : EI E s) (hx : s.X[w]? = some x) (hd : In64 draw) (hm : s.m ≤ 1000000000000) (hcap : Phi E.os E.rts.length E.part s < 200 * E.rS + 200) (h3 : x.st = 3) :
    Does Tryz.prog 177 [ptr (E.wp w) 0] (wkL E x draw ++ shL E s s.tv sv) (StepP E s w sv) := by
  obtain ⟨hxk, hwW, hW2, hone, htv, q, hq⟩ := WFacts hE hI hx
  subst hxk
  have hlo := (hI.wk _ _ hx).lo
  unfold WLoc at hlo
  rw [h3] at hlo
  obtain ⟨y, hcl, hon, hyw, hpos, htn⟩ := hlo
  have hA : AtS x y := ⟨hon, .inl ⟨h3, hcl, hyw, hpos, htn⟩⟩
  have hS : Sp.SHI E.W E.rS ((scs s.X).set x.k y) s.sw s.sP s.sL := by
    have hg := scs_get hx
    have : atS x = y := by unfold atS; rw [hcl]; rfl
    rw [this] at hg
    rw [set_id hg]
    exact hI.sh
  obtain ⟨hyk, hD⟩ := sp_facts hE hI hx hS hon
  have hth : thV x.tn = fnV (fnM x.tn) := by unfold thV; rw [if_neg (by omega)]
  have e0 : wkL E x draw = [wkB (E.wp x.k) E.pM x.k draw (fnV (fnM x.st)) x.at_ x.to x.x.a x.x.f x.x.t x.scans x.push (fnV (fnM x.tn)) (spI y.c) x.victim x.low x.seen, Sp.scL y.c E.pp x.k (decide (0 < y.w)) y.s y.n y.word false 0] := by
    unfold wkL wkT callL
    rw [hcl, hth]
    dsimp only
    rw [hyk]
  rw [e0]
  refine Does.use (pre := wkB (E.wp x.k) E.pM x.k draw (fnV (fnM x.st)) x.at_ x.to x.x.a x.x.f x.x.t x.scans x.push (fnV (fnM x.tn)) (spI y.c) x.victim x.low x.seen :: mB E s.tv sv :: (Sp.scL y.c E.pp x.k (decide (0 < y.w)) y.s y.n y.word false 0 :: Sp.spillZ E.pp E.qpc E.qbw s.sw E.rS))
    (spilling_spec (Pm := smP E s x.k x q y.c) (Pd := fun l => ∃ dc sw', EN E s (s.go x.k x.k { x with st := x.tn, push := 0, cl := .none } q s.ms s.nc sw' s.sP none (s.tv + 1) (s.m + 1)) x.k ∧ l = dc :: Sp.spillZ E.pp E.qpc E.qbw sw' E.rS) (fnM x.tn) (by constructor <;> omega) (hD.mono ?_)) (fun H hl => hl.perm (picks_perm (is := [0, 1, 0, 8, 8]) rfl)) ?_
  · rintro v l (⟨y', sw', P', L', rfl, g1, g2, rfl⟩ | ⟨s', fault, rfl, g1, g2, g3, rfl⟩)
    · obtain ⟨k1, k2, k3⟩ := MoreS_keep g2
      rw [List.set_set] at g1
      refine .inl ⟨rfl, y', sw', P', L', k1, step_sp_more (tv' := s.tv + 1) hI hone hx hq hA hS g2 g1 (Nat.le_succ _) (by omega), ?_⟩
      rw [k2, k3, hyk]
    · rw [List.set_set] at g2
      refine .inr ⟨rfl, _, _, step_put_ok (tv' := s.tv + 1) hI hone hx hq hA h3 ?_ g2 (Nat.le_succ _) (by omega), rfl⟩
      rcases g3 with ⟨_, h⟩ | ⟨_, _, h, h5⟩ | ⟨_, h, _⟩
      · exact h
      · have := cap_ok hI hx hA h3 (by omega) hcap
        omega
      · omega
  rintro v l ⟨rfl, D', ⟨⟨y', sw', P', L', hyc, hN, rfl⟩, rfl⟩ | ⟨⟨dc, sw', hN, rfl⟩, rfl⟩⟩
  · refine ⟨_, ⟨rfl, _, _, draw, hN, rfl, rfl, hd, rfl⟩, fun H hl => ?_⟩
    have e2 : wkL E { x with cl := .sp y' } draw = [wkB (E.wp x.k) E.pM x.k draw (fnV (fnM x.st)) x.at_ x.to x.x.a x.x.f x.x.t x.scans x.push (fnV (fnM x.tn)) (spI y'.c) x.victim x.low x.seen, Sp.scL y'.c E.pp y'.k (decide (0 < y'.w)) y'.s y'.n y'.word false 0] := by
      unfold wkL wkT callV callL
      dsimp only
      rw [hth]
    rw [sh_go (x' := { x with cl := .sp y' }) hx hq Iff.rfl, e2, hyc]
    exact hl.pick (is := [0, 1, 0, 2, 2, 2, 2, 2, 2, 2, 2, 0, 0, 0, 0, 0, 0, 0]) rfl
  · refine ⟨_, ⟨rfl, _, _, draw, hN, rfl, rfl, hd, rfl⟩, fun H hl => ?_⟩
    rw [sh_go (x' := { x with st := x.tn, push := 0, cl := .none }) hx hq (by show 9 ≤ x.tn ↔ 9 ≤ x.st; omega), wkL_none (x := { x with st := x.tn, push := 0, cl := .none }) rfl]
    unfold wkT
    dsimp only
    rw [hth]
    exact hl.pick (is := [0, 0, 3, 3, 3, 3, 3, 3, 3, 3, 1, 1, 1, 1, 1, 1, 1]) rfl
abbrev snP (E : EV) (s : MS) (w : Nat) (x : WK) (q : DQ) (l : List HP) : Prop :=
  ∃ dc sw', EN E s (s.go w w { x with st := 8, cl := .none } q s.ms s.nc sw' s.sP none (s.tv + 1) (s.m + 1)) w ∧ l = dc :: Sp.spillZ E.pp E.qpc E.qbw sw' E.rS
abbrev stP (E : EV) (s : MS) (w : Nat) (x : WK) (q : DQ) (t : TK) (l : List HP) : Prop :=
  ∃ dc sw' u, tkOf u = t ∧ (¬ t.f + E.K < t.t → EN E s (s.go w w (withT x u) q s.ms s.nc sw' s.sP none (s.tv + 1) (s.m + 1)) w) ∧
    (t.f + E.K < t.t → ∀ cc, EN E s (s.go w w (splitT (withT x u) E.K cc) q s.ms s.nc sw' s.sP none (s.tv + 1) (s.m + 1)) w) ∧ l = dc :: Sp.spillZ E.pp E.qpc E.qbw sw' E.rS
set_option maxHeartbeats 8000000 in
theorem sp_calls (hE : EOk E) (hI : EI E s) (hx : s.X[w]? = some x) (hq : s.D[w]? = some q) (hA : AtS x y) (h7 : x.st = 7) (hS : Sp.SHI E.W E.rS ((scs s.X).set w y) s.sw s.sP s.sL) (hon : y.on = true) :
    y.k = w ∧ Calls 232 231 y.c (Sp.scL y.c E.pp w false y.s y.n y.word false 0 :: Sp.spillZ E.pp E.qpc E.qbw s.sw E.rS) (smP E s w x q y.c) (snP E s w x q) (stP E s w x q) := by
  obtain ⟨hxk, hwW, hW2, hone, htv, _⟩ := WFacts hE hI hx
  have hA' := hA.2
  have hnn := hA.n
  rcases hA' with ⟨h3, _⟩ | ⟨_, hpu, hyw, hcl⟩
  · omega
  obtain ⟨hyk, hD⟩ := sp_facts hE hI hx hS hon
  have hdw : decide (0 < y.w) = false := decide_eq_false (by omega)
  rw [hdw] at hD
  refine ⟨hyk, ⟨fun l => ∃ (s' fault : Int), s.sL = some w ∧ Sp.SHI E.W E.rS ((scs s.X).set w { y with on := false }) (s.sw.set 0 0) s.sP none ∧ ((fault = 0 ∧ y.s = 4) ∨ (fault = 7 ∧ y.s = 2 ∧ s.sP = [])) ∧ l = Sp.scL y.c E.pp w false s' y.n y.word true fault :: Sp.spillZ E.pp E.qpc E.qbw (s.sw.set 0 0) E.rS, hD.mono ?_, ?_⟩⟩
  · rintro v l (⟨y', sw', P', L', rfl, g1, g2, rfl⟩ | ⟨s', fault, rfl, g1, g2, g3, rfl⟩)
    · obtain ⟨k1, k2, k3⟩ := MoreS_keep g2
      rw [List.set_set] at g1
      refine .inl ⟨rfl, y', sw', P', L', k1, step_sp_more (tv' := s.tv + 1) hI hone hx hq hA hS g2 g1 (Nat.le_succ _) (by omega), ?_⟩
      rw [k2, k3, hyk, hdw]
    · rw [List.set_set] at g2
      refine .inr ⟨rfl, s', fault, g1, g2, ?_, rfl⟩
      rcases g3 with h | ⟨_, h, _⟩ | ⟨h1, _, h2, h3⟩
      · exact .inl h
      · omega
      · exact .inr ⟨h1, h2, h3⟩
  · rintro l ⟨s', fault, g1, g2, g3, rfl⟩
    have hR := (Sp.Result_spec (c := y.c) (p := E.pp) (k := ⟨w, false, s', y.n, y.word, true, fault⟩)).wide (L := Sp.scL y.c E.pp w false s' y.n y.word true fault :: Sp.spillZ E.pp E.qpc E.qbw (s.sw.set 0 0) E.rS) [0] rfl
    refine ⟨_, _, hR.mono (fun v l => by rintro ⟨_, ⟨rfl, rfl⟩, rfl⟩; exact ⟨rfl, rfl⟩), ?_⟩
    rcases g3 with ⟨rfl, h4⟩ | ⟨rfl, h2, hP⟩
    · right
      refine ⟨rfl, ?_⟩
      have hl : w < (scs s.X).length := (List.getElem?_eq_some_iff.1 (scs_get hx)).1
      have hcl2 : x.cl = .sp y := by
        rcases hcl with h | ⟨_, h⟩
        · exact h
        · omega
      have hh : hand x = [y.word] := by
        unfold hand
        rw [hcl2, if_pos hpu]
        show [] ++ (if y.w = 0 ∧ y.s = 4 then [y.word] else []) = _
        rw [if_pos ⟨hyw, h4⟩]
        rfl
      have hb : base x = 200 * lenW y.word + 9 := by
        rw [base7' h7 (by omega), hcl2]
        rfl
      have hG := got (K := E.K) (tv' := s.tv + 1) (m' := s.m + 1) (q' := q) (sw' := s.sw.set 0 0) (sP' := s.sP) (sL' := none) (u := y.word) hI hone hx hwW hq ⟨by omega, by omega⟩ hpu rfl
        (dq_keep hI hx hq _ (fun e k => by rw [hA.d]; rfl) (Nat.le_succ _)) (fun e he k => hA.d e k)
        (by
          have e : atS (withT x y.word) = offS w := by
            show offS x.k = offS w
            rw [hxk]
          rw [scs_set, e]
          exact SHI_off g2 hl)
        (by rw [hh]; exact List.mem_append_right _ (List.mem_singleton.2 rfl)) (.inl rfl)
        (fun v hv => by
          rw [hh] at hv
          rcases List.mem_append.1 hv with hv | hv
          · exact .inr hv
          · exact .inl (List.mem_singleton.1 hv))
        (fun v hv => List.mem_append_left _ hv) id (Nat.le_succ _) (by omega) (by rw [hb]; omega) hE.K1
      obtain ⟨k1, k2, k3, k4⟩ := hG
      exact ⟨tkOf y.word, k1, k2, _, _, y.word, rfl, k3, k4, rfl⟩
    · left
      exact ⟨by show (7 : Int) ≠ 0; decide, _, _, step_take_none (tv' := s.tv + 1) hI hone hx hq hA h7 h2 g1 hP g2 (Nat.le_succ _) (by omega), rfl⟩
set_option maxHeartbeats 8000000 in
theorem take_shut (hI : EI E s) (hx : s.X[w]? = some x) (hd64 : In64 draw) (hq : s.D[w]? = some q) (hxk : x.k = w) (h7 : x.st = 7) {v : Value} {l : List HP}
    (h : tryP spI (E.wp w) E.pM w draw (fnV (fnM x.st)) x.at_ x.to x.x.a x.x.f x.x.t x.scans x.push (thV x.tn) x.victim x.low x.seen (mB E ((s.tv : Int) + 1) sv) (Rd E) (E.dp w) E.K 166 (smP E s w x q) (snP E s w x q) (stP E s w x q) v l) :
    ∃ l', StepP E s w sv v l' ∧ ∀ H, Stars (l ++ (heapL E.p E.bw E.bs E.n E.ws E.T E.st ++ (marksL E.pk E.bm E.n s.ms ++ (Rt.rootsZ E.pr E.rc E.rw s.nc E.ar E.cr E.rts E.part ++ (Of.offerZ E.po E.qc E.qw E.qi (cntX s.X : Nat) (idleX s.X) ++ [bigM (dqH E) s.D]))))) H → Stars l' H := by
  subst hxk
  obtain ⟨rfl, D', ⟨cc, ⟨y', sw', P', L', hyc, hN, rfl⟩, rfl⟩ | ⟨⟨dc, sw', hN, rfl⟩, rfl⟩ | ⟨t, ⟨dc, sw', u, ht, hN1, hN2, rfl⟩, ⟨hs, rfl⟩ | ⟨hs, cc, rfl⟩⟩⟩ := h
  · refine ⟨_, ⟨rfl, _, _, draw, hN, rfl, rfl, hd64, rfl⟩, fun H hl => ?_⟩
    have e2 : wkL E { x with cl := .sp y' } draw = [wkT E x draw (spI y'.c), Sp.scL y'.c E.pp y'.k (decide (0 < y'.w)) y'.s y'.n y'.word false 0] := by
      unfold wkL callV callL
      rfl
    rw [sh_go (x' := { x with cl := .sp y' }) hx hq Iff.rfl, e2, hyc]
    exact hl.pick (is := [0, 2, 0, 3, 3, 3, 3, 3, 3, 3, 3, 1, 1, 1, 1, 1, 0, 0]) rfl
  · refine ⟨_, ⟨rfl, _, _, draw, hN, rfl, rfl, hd64, rfl⟩, fun H hl => ?_⟩
    rw [sh_go (x' := { x with st := 8, cl := .none }) hx hq (by show 9 ≤ 8 ↔ 9 ≤ x.st; omega), wkL_none (x := { x with st := 8, cl := .none }) rfl]
    exact hl.pick (is := [0, 0, 4, 4, 4, 4, 4, 4, 4, 4, 2, 2, 2, 2, 2, 0, 1]) rfl
  · subst ht
    refine ⟨_, ⟨rfl, _, _, draw, hN1 hs, rfl, rfl, hd64, rfl⟩, fun H hl => ?_⟩
    rw [sh_go (x' := withT x u) hx hq (by show 9 ≤ 4 ↔ 9 ≤ x.st; omega), wkL_none (x := withT x u) rfl]
    exact hl.pick (is := [0, 0, 4, 4, 4, 4, 4, 4, 4, 4, 2, 2, 2, 2, 2, 0, 1]) rfl
  · subst ht
    refine ⟨_, ⟨rfl, _, _, draw, hN2 hs cc, rfl, rfl, hd64, rfl⟩, fun H hl => ?_⟩
    rw [sh_go (x' := splitT (withT x u) E.K cc) hx hq (by show 9 ≤ 2 ↔ 9 ≤ x.st; omega)]
    exact hl.pick (is := [0, 0, 0, 4, 4, 4, 4, 4, 4, 4, 4, 2, 2, 2, 2, 2, 0, 1]) rfl
set_option maxHeartbeats 8000000 in
theorem ws_take (hE : EOk E) (hI : EI E s) (hx : s.X[w]? = some x) (hd : In64 draw) (hm : s.m ≤ 1000000000000) (hRd : Reads (Rd E) 1 E.W E.da E.dc (dptrs E)) (h7 : x.st = 7) :
    Does Tryz.prog 144 [ptr (E.wp w) 0] (wkL E x draw ++ shL E s s.tv sv) (StepP E s w sv) := by
  obtain ⟨hxk, hwW, hW2, hone, htv, q, hq⟩ := WFacts hE hI hx
  subst hxk
  have hK2 := hE.K2
  have hlo := (hI.wk _ _ hx).lo
  unfold WLoc at hlo
  rw [h7] at hlo
  obtain ⟨hpu, hc⟩ := hlo
  have hg := scs_get hx
  rcases hc with hcl | ⟨y, hcl, hon, hyw⟩
  · have hC : ∀ cc, Calls 232 231 cc (Sp.scL cc E.pp x.k false 0 0 0 false 0 :: Sp.spillZ E.pp E.qpc E.qbw s.sw E.rS) (smP E s x.k x q cc) (snP E s x.k x q) (stP E s x.k x q) := by
      intro cc
      have hS := hI.sh.on hg (by unfold atS; rw [hcl]; rfl) cc 0 (Int.le_refl _)
      exact (sp_calls hE hI hx hq ⟨rfl, .inr ⟨h7, hpu, rfl, .inr ⟨hcl, rfl⟩⟩⟩ h7 hS rfl).2
    rw [wkL_none hcl]
    refine Does.use (pre := wkT E x draw .nilIface :: mB E s.tv sv :: Rd E :: Sp.spillZ E.pp E.qpc E.qbw s.sw E.rS) (take_new x.k (E.dp x.k) E.K hE.K1 (by omega) hRd (dptr_at hwW) hwW (by omega) (by constructor <;> omega) hC) (fun H hl => hl.perm (picks_perm (is := [0, 0, 13, 8, 8]) rfl)) ?_
    intro v l h
    exact take_shut hI hx hd hq rfl h7 h
  · have hS : Sp.SHI E.W E.rS ((scs s.X).set x.k y) s.sw s.sP s.sL := by
      have : atS x = y := by unfold atS; rw [hcl]; rfl
      rw [this] at hg
      rw [set_id hg]
      exact hI.sh
    obtain ⟨hyk, hC⟩ := sp_calls hE hI hx hq ⟨hon, .inr ⟨h7, hpu, hyw, .inl hcl⟩⟩ h7 hS hon
    have e0 : wkL E x draw = [wkT E x draw (spI y.c), Sp.scL y.c E.pp x.k false y.s y.n y.word false 0] := by
      unfold wkL
      rw [hcl]
      show [_, Sp.scL y.c E.pp y.k (decide (0 < y.w)) y.s y.n y.word false 0] = _
      rw [show decide (0 < y.w) = false from decide_eq_false (by omega), hyk]
    rw [e0]
    refine Does.use (pre := wkT E x draw (spI y.c) :: mB E s.tv sv :: Rd E :: (Sp.scL y.c E.pp x.k false y.s y.n y.word false 0 :: Sp.spillZ E.pp E.qpc E.qbw s.sw E.rS)) (take_more x.k (E.dp x.k) E.K hE.K1 (by omega) hRd (dptr_at hwW) hwW (by constructor <;> omega) hC) (fun H hl => hl.perm (picks_perm (is := [0, 1, 14, 0, 8, 8]) rfl)) ?_
    intro v l h
    exact take_shut hI hx hd hq rfl h7 h
end steps
end Go.Proofs.YtfmkjbmogfhpbaaGreatDoor.Mk
set_option maxRecDepth 8000
namespace Go.Proofs.YtfmkjbmogfhpbaaGreatDoor.Mk
open Go.Sep
abbrev stL (E : EV) (s : MS) (tv sv : Int) : List HP := shL E s tv sv ++ [Rw E, bigM (wkH E) s.X]
section steps
variable {E : EV} {s : MS} {w : Nat} {x : WK} {draw sv tv : Int}
theorem ws_any (hE : EOk E) (hI : EI E s) (hx : s.X[w]? = some x) (hd : In64 draw) (hm : s.m ≤ 1000000000000) (hcap : Phi E.os E.rts.length E.part s < 200 * E.rS + 200) (hRd : Reads (Rd E) 1 E.W E.da E.dc (dptrs E)) (hno : ¬ Over s) :
    Does Tryz.prog (fnM x.st) [ptr (E.wp w) 0] (wkL E x draw ++ shL E s s.tv sv) (StepP E s w sv) := by
  have hlo := (hI.wk _ _ hx).lo
  have h12 : x.st ≤ 12 := by
    unfold WLoc at hlo
    split at hlo <;> first | omega | exact hlo.elim
  rcases (by omega : x.st = 0 ∨ x.st = 1 ∨ x.st = 2 ∨ x.st = 3 ∨ x.st = 4 ∨ x.st = 5 ∨ x.st = 6 ∨ x.st = 7 ∨ x.st = 8 ∨ x.st = 9 ∨ x.st = 10 ∨ x.st = 11 ∨ x.st = 12) with e | e | e | e | e | e | e | e | e | e | e | e | e
  · have := ws_claim (sv := sv) hE hI hx hd hm e; rw [e]; exact this
  · have := ws_root (sv := sv) hE hI hx hd hm hRd e; rw [e]; exact this
  · have := ws_pushing (sv := sv) hE hI hx hd hm e; rw [e]; exact this
  · have := ws_spilling (sv := sv) hE hI hx hd hm hcap e; rw [e]; exact this
  · have := ws_scan (sv := sv) hE hI hx hd hm hRd e; rw [e]; exact this
  · have := ws_pop (sv := sv) hE hI hx hd hm hRd e; rw [e]; exact this
  · have := ws_steal (sv := sv) hE hI hx hd hm hRd e; rw [e]; exact this
  · have := ws_take (sv := sv) hE hI hx hd hm hRd e; rw [e]; exact this
  · have := ws_idle (sv := sv) hE hI hx hd hm e; rw [e]; exact this
  · have := ws_look (sv := sv) hE hI hx hd hm hno e; rw [e]; exact this
  · have := ws_peek (sv := sv) hE hI hx hd hm hRd e; rw [e]; exact this
  · have := ws_peekTop (sv := sv) hE hI hx hd hm hRd e; rw [e]; exact this
  · have := ws_back (sv := sv) hE hI hx hd hm hno e; rw [e]; exact this
theorem Over_m {cnt : Int} {idle : List Bool} : Does Tryz.prog 76 [ptr E.pM 0] (mB E tv sv :: Of.offerZ E.po E.qc E.qw E.qi cnt idle) (fun v l => v = .bool (decide (cnt = idle.length)) ∧ l = mB E tv sv :: Of.offerZ E.po E.qc E.qw E.qi cnt idle) := by
  refine Does.of tiok Tryz.func76 (by kernel_rfl) rfl Tryz.ntmps76 rfl ?_
  intro W fr
  repeat' (first | refine Wka ?_ | intro _ | apply And.intro)
  refine JO_l (OL_call [1, 1, 1] rfl rfl rfl Of.Over_spec rfl) rfl rfl ?_
  rintro _ _ ⟨_, ⟨rfl, rfl⟩, rfl⟩
  repeat' (first | refine Wka ?_ | intro _ | apply And.intro)
  exact At_ret rfl rfl (.tmp rfl .nil) rfl (is := [3, 0, 0, 0]) rfl ⟨rfl, rfl⟩
theorem over_dec (hI : EI E s) : decide (((cntX s.X : Nat) : Int) = (idleX s.X).length) = decide (cntX s.X = E.W) := by
  have : (idleX s.X).length = E.W := by unfold idleX; rw [List.length_map, hI.xl]
  rw [this]
  exact decide_eq_decide.2 (by omega)
theorem over_iff (hI : EI E s) : cntX s.X = E.W ↔ Over s := by rw [← hI.xl]; exact cnt_all
set_option maxHeartbeats 16000000 in
theorem MStep_spec (hE : EOk E) (hI : EI E s) (hj : w < E.W) (hd : In64 draw) (hm : s.m ≤ 1000000000000) (hcap : Phi E.os E.rts.length E.part s < 200 * E.rS + 200) :
    Does Tryz.prog 36 [ptr E.pM 0, .int .i64 w, .int .i64 draw] (stL E s s.tv s.m)
    (fun v l => ∃ (s' : MS) (e : Int), ((Over s ∧ e = 12 ∧ s' = s) ∨ (¬ Over s ∧ e = 0 ∧ EN E s s' w ∧ s'.m = s.m + 1)) ∧ v = .int .i64 e ∧ l = stL E s' s'.tv s'.m) := by
  have hW2 := hE.W2
  have hxl := hI.xl
  refine Does.of tiok Tryz.func36 (by kernel_rfl) rfl Tryz.ntmps36 rfl ?_
  intro W fr
  refine J_row (i := 14) rfl fun hr => ?_
  have hRd : Reads (Rd E) 1 E.W E.da E.dc (dptrs E) := Reads.row hr.1 hr.2.1
  refine J_row (i := 16) rfl fun hr2 => ?_
  have hRw : Reads (Rw E) 1 E.W E.wa E.wc (wptrs E) := Reads.row hr2.1 hr2.2.1
  refine J_fact _ (fun w hs => hRw.some (by omega) hs (by simp)) ?_
  rintro ⟨b2, o2, hwa⟩
  repeat' (first | refine Wka ?_ | intro _ | apply And.intro)
  refine JO_l (OL_call [0, 10, 10, 10] rfl rfl rfl Over_m rfl) rfl rfl ?_
  rintro _ _ ⟨_, ⟨rfl, rfl⟩, rfl⟩
  rw [over_dec hI]
  by_cases ho : cntX s.X = E.W
  · repeat' (first | refine Wka ?_ | intro _ | apply And.intro)
    exact At_ret rfl rfl (.tmp rfl .nil) rfl (is := [0, 3, 3, 3, 3, 3, 3, 3, 3, 3, 3, 0, 0, 0, 0, 0, 0, 0]) rfl ⟨s, 12, .inl ⟨(over_iff hI).1 ho, rfl, rfl⟩, rfl, rfl⟩
  · have hno : ¬ Over s := fun e => ho ((over_iff hI).2 e)
    obtain ⟨x, hx⟩ : ∃ x, s.X[w]? = some x := ⟨s.X[w]'(by omega), List.getElem?_eq_getElem _⟩
    have hxk := hI.xk _ _ hx
    have hxl2 : w < s.X.length := by omega
    have htv := hI.tv
    repeat' (first | refine Wka ?_ | intro _ | apply And.intro)
    rw [hwa]
    refine JO_val (OV_idx (off := o2 + w) rfl rfl rfl rfl (by omega) (by omega) (by omega)) rfl rfl ?_
    have hRd2 := hRd
    rw [hwa] at hRw
    refine JO_q (OQ_read (i := w) (v := ptr (E.wp w) 0) hRw (by simp [hwa]) rfl rfl (by omega) (wptr_at hj)) rfl rfl ?_
    refine JO_hp (l' := exP (fun d : Int => In64 d) (wkL E x) :: (shL E s s.tv s.m ++ [Rw E, bigM (wkH E) (s.X.eraseIdx w)])) (fun H hl => ?_) ?_
    · have h1 := bigM.out hx (hl.perm (picks_perm (is := [17]) rfl))
      exact h1.pick (is := [0, 1, 4, 4, 4, 4, 4, 4, 4, 4, 4, 4, 1, 1, 1, 1, 1, 1, 0]) rfl
    refine JO_exP fun d0 hd0 => ?_
    refine JO_hp (l' := wkT E x d0 (callV x.cl) :: (callL E x.cl ++ (shL E s s.tv s.m ++ [Rw E, bigM (wkH E) (s.X.eraseIdx w)]))) (fun H hl => hl) ?_
    unfold wkT
    rw [hxk]
    repeat' (first | refine Wka ?_ | intro _ | apply And.intro)
    refine JO_hp (l' := (wkL E x draw ++ shL E s s.tv s.m) ++ [Rw E, bigM (wkH E) (s.X.eraseIdx w)]) (fun H hl => ?_) ?_
    · rw [List.append_assoc]
      unfold wkL wkT
      rw [hxk]
      exact hl
    refine JO_l (OL_callP (r := [Rw E, bigM (wkH E) (s.X.eraseIdx w)]) rfl rfl rfl (ws_any hE hI hx hd hm hcap hRd2 hno) (.refl _)) rfl rfl ?_
    rintro _ _ ⟨l1, ⟨rfl, s', x', d', hN, hX, hm', hd', rfl⟩, rfl⟩
    refine JO_hp (l' := stL E s' s'.tv s.m) (fun H hl => ?_) ?_
    · rw [List.append_assoc] at hl
      have h1 : Stars (wkH E x' :: (shL E s' s'.tv s.m ++ [Rw E, bigM (wkH E) (s.X.eraseIdx w)])) H := exP_in d' hd' hl
      have h2 := bigM.back (f := wkH E) hxl2 (h1.perm (picks_perm (is := [0, 17]) rfl))
      rw [← hX] at h2
      exact h2.pick (is := [1, 1, 1, 1, 1, 1, 1, 1, 1, 1, 1, 1, 1, 1, 1, 1, 1, 0]) rfl
    repeat' (first | refine Wka ?_ | intro _ | apply And.intro)
    rw [show (s.m : Int) + 1 = (s'.m : Nat) by omega]
    exact At_ret rfl rfl (.tmp rfl .nil) rfl (is := [0, 0, 0, 0, 0, 0, 0, 0, 0, 0, 0, 0, 0, 0, 0, 0, 0, 0]) rfl ⟨s', 0, .inr ⟨hno, rfl, hN, hm'⟩, rfl, rfl⟩
end steps
end Go.Proofs.YtfmkjbmogfhpbaaGreatDoor.Mk
set_option maxRecDepth 8000
namespace Go.Proofs.YtfmkjbmogfhpbaaGreatDoor.Mk
open Go.Sep
section ops
variable {p bw bs n T : Nat} {ws : List Int} {st : List Bool} {os : List RO}
theorem leads_ok (h : HT n T ws st) (hc : Ch ws 0 os T) {z : Int} (hz : z = 0 ∨ ∃ (j : Nat) (o : RO), os[j]? = some o ∧ z = (o.i : Int) + 1 ∧ o.k ≠ 15) :
    Does Tryz.prog 67 [ptr p 0, .int .i64 z] (heapL p bw bs n ws T st) (fun v l => v = .bool true ∧ l = heapL p bw bs n ws T st) := by
  refine Does.of tiok Tryz.func67 (by kernel_rfl) rfl Tryz.ntmps67 rfl ?_
  intro W fr
  rcases hz with rfl | ⟨j, o, hj, rfl, h15⟩
  · repeat' (first | refine Wka ?_ | intro _ | apply And.intro)
    exact At_ret rfl rfl (.tmp rfl .nil) rfl (is := [0, 0, 0]) rfl ⟨rfl, rfl⟩
  · have hol := hc.o_lt hj
    have htn := h.tn
    have hnb := h.nb
    repeat' (first | refine Wka ?_ | intro _ | apply And.intro)
    rw [show (o.i : Int) + 1 - 1 = (o.i : Int) by omega]
    refine JO_l (OL_call [0, 0, 0] rfl rfl rfl (HeadO_ok h hc hj) rfl) rfl rfl ?_; rintro _ _ ⟨_, ⟨rfl, rfl⟩, rfl⟩
    repeat' (first | refine Wka ?_ | intro _ | apply And.intro)
    exact At_ret rfl rfl (.tmp rfl .nil) rfl (is := [1, 1, 1]) rfl ⟨by simp [retV, h15], rfl⟩
theorem New1_ok {b : Nat} (h : HT n T ws st) (hc : Ch ws 0 os T) {z : Int} (hz : z = 0 ∨ ∃ (j : Nat) (o : RO), os[j]? = some o ∧ z = (o.i : Int) + 1 ∧ o.k ≠ 15) :
    Does Tryz.prog 66 [.int .i64 z, ptr b 0] (blk b [ptr p 0] 32 :: heapL p bw bs n ws T st) (fun v l => v = .bool false ∧ l = blk b [ptr p 0] 32 :: heapL p bw bs n ws T st) := by
  refine Does.of tiok Tryz.func66 (by kernel_rfl) rfl Tryz.ntmps66 rfl ?_
  intro W fr
  repeat' (first | refine Wka ?_ | intro _ | apply And.intro)
  refine JO_l (OL_call [1, 1, 1] rfl rfl rfl (leads_ok h hc hz) rfl) rfl rfl ?_; rintro _ _ ⟨_, ⟨rfl, rfl⟩, rfl⟩
  repeat' (first | refine Wka ?_ | intro _ | apply And.intro)
  exact At_ret rfl rfl (.tmp rfl .nil) rfl (is := [3, 0, 0, 0]) rfl ⟨rfl, rfl⟩
abbrev new1V (b : Nat) : Value := .func (.func 66) #[] #[ptr b 0]
set_option maxHeartbeats 4000000 in
theorem IndexFunc_roots {b cap : Nat} {R : HP} {a : Option Addr} {rts : List Int} (hR : Reads R 1 rts.length a cap (intsV rts)) (hl : rts.length ≤ 65536) (h : HT n T ws st) (hc : Ch ws 0 os T) (hz : ∀ z ∈ rts, z = 0 ∨ ∃ (j : Nat) (o : RO), os[j]? = some o ∧ z = (o.i : Int) + 1 ∧ o.k ≠ 15) :
    Does Tryz.prog 101 [.slice a rts.length cap, new1V b] (R :: blk b [ptr p 0] 32 :: heapL p bw bs n ws T st) (fun v l => v = .int .i64 (-1) ∧ l = R :: blk b [ptr p 0] 32 :: heapL p bw bs n ws T st) := by
  refine Does.of tiok Tryz.func101 (by kernel_rfl) rfl Tryz.ntmps101 rfl ?_
  intro W fr
  repeat' (first | refine Wka ?_ | intro _ | apply And.intro)
  refine J_loop (α := Nat) (fun q => q ≤ rts.length)
    (fun q => [(0, .slice a rts.length cap), (1, new1V b), (7, .int .i64 rts.length), (8, .int .i64 q)])
    (fun q => R :: blk b [ptr p 0] 32 :: heapL p bw bs n ws T st) (fun q => rts.length - q) 0 (Nat.zero_le _) Sgt (fun H hl => hl) ?_
  intro q hq
  repeat' (first | refine Wka ?_ | intro _ | apply And.intro)
  · rename_i hlt
    have hlt : q < rts.length := by omega
    have hy : rts[q]? = some (rts[q]'hlt) := List.getElem?_eq_getElem _
    generalize rts[q]'hlt = y at hy
    refine JO_fact _ (fun w hs => hR.some (by omega) hs (by simp)) ?_
    rintro ⟨b2, o2, rfl⟩
    refine JO_val (OV_idx (off := o2 + q) rfl rfl rfl rfl (by omega) (by omega) (by omega)) rfl rfl ?_
    refine JO_q (OQ_read (i := q) (v := .int .i64 y) hR (by simp) rfl rfl (by omega) (by simp [intsV, hy])) rfl rfl ?_
    refine JO_l (OL_call [1, 1, 1, 1] rfl rfl rfl (New1_ok h hc (hz y (List.mem_of_getElem? hy))) rfl) rfl rfl ?_
    rintro _ _ ⟨_, ⟨rfl, rfl⟩, rfl⟩
    repeat' (first | refine Wka ?_ | intro _ | apply And.intro)
    exact At_round (q + 1) (by show rts.length - (q + 1) < rts.length - q; omega) (by show q + 1 ≤ rts.length; omega) Sgt (fun H hl => hl.perm (picks_perm (is := [4, 0, 0, 0, 0]) rfl))
  · exact At_ret rfl rfl (.tmp rfl .nil) rfl (is := [0, 0, 0, 0, 0]) rfl ⟨rfl, rfl⟩
theorem ContainsFunc_roots {b cap : Nat} {R : HP} {a : Option Addr} {rts : List Int} (hR : Reads R 1 rts.length a cap (intsV rts)) (hl : rts.length ≤ 65536) (h : HT n T ws st) (hc : Ch ws 0 os T) (hz : ∀ z ∈ rts, z = 0 ∨ ∃ (j : Nat) (o : RO), os[j]? = some o ∧ z = (o.i : Int) + 1 ∧ o.k ≠ 15) :
    Does Tryz.prog 65 [.slice a rts.length cap, new1V b] (R :: blk b [ptr p 0] 32 :: heapL p bw bs n ws T st) (fun v l => v = .bool false ∧ l = R :: blk b [ptr p 0] 32 :: heapL p bw bs n ws T st) := by
  refine Does.of tiok Tryz.func65 (by kernel_rfl) rfl Tryz.ntmps65 rfl ?_
  intro W fr
  repeat' (first | refine Wka ?_ | intro _ | apply And.intro)
  refine JO_l (OL_call [0, 0, 0, 0, 0] rfl rfl rfl (IndexFunc_roots hR hl h hc hz) rfl) rfl rfl ?_
  rintro _ _ ⟨_, ⟨rfl, rfl⟩, rfl⟩
  repeat' (first | refine Wka ?_ | intro _ | apply And.intro)
  exact At_ret rfl rfl (.tmp rfl .nil) rfl (is := [0, 0, 0, 0, 0]) rfl ⟨rfl, rfl⟩
theorem fits_ok (w r k : Int) (h : 1 ≤ w ∧ w ≤ 64 ∧ 2 ≤ r ∧ r ≤ 1024 ∧ 1 ≤ k ∧ k ≤ 4095) : Does Tryz.prog 63 [.int .i64 w, .int .i64 r, .int .i64 k] [] (fun v l => v = .bool true ∧ l = []) := by
  obtain ⟨h1, h2, h3, h4, h5, h6⟩ := h
  refine Does.of tiok Tryz.func63 (by kernel_rfl) rfl Tryz.ntmps63 rfl ?_
  intro W fr
  repeat' (first | refine Wka ?_ | intro _ | apply And.intro)
  exact At_ret rfl rfl (.tmp rfl .nil) rfl (is := []) rfl ⟨by simp [retV]; omega, rfl⟩
def dqN (rm : Nat) (d : Nat × Nat × Nat) : HP := big (deqZ d.1 d.2.1 d.2.2 (List.replicate (rm + 2) 0) rm)
def wkN (pM : Nat) (y : Nat × Nat) : HP := blk y.2 [ptr pM 0, .int .i64 y.1, .int .i64 0, fnV 72, .int .i64 0, .int .i64 0, .int .i64 0, .int .i64 0, .int .i64 0, .bool false, .int .i64 0, .nilFunc, .nilIface, .int .i64 0, .int .i64 0, .int .i64 0] 163
abbrev dqV (ds : List (Nat × Nat × Nat)) : List Value := ds.map fun d => ptr d.1 0
abbrev wkV (ps : List (Nat × Nat)) : List Value := ps.map fun d => ptr d.2 0
set_option maxHeartbeats 16000000 in
theorem MNew_spec {pr rc rw cr : Nat} {nx : Int} {ar : Option Addr} {rts : List Int} {part W rm K : Nat} (h : HT n T ws st) (hc : Ch ws 0 os T) (hr : RefsOk ws st) (h1 : 1 ≤ n) (hz : ∀ z ∈ rts, z = 0 ∨ ∃ (j : Nat) (o : RO), os[j]? = some o ∧ z = (o.i : Int) + 1 ∧ o.k ≠ 15) (hl : rts.length ≤ 1024)
    (hW : 1 ≤ W ∧ W ≤ 64) (hrm : 2 ≤ rm ∧ rm ≤ 1024) (hK : 1 ≤ K ∧ K ≤ 4095) :
    Does Tryz.prog 33 [ptr p 0, ptr pr 0, .int .i64 W, .int .i64 rm, .int .i64 K] (heapL p bw bs n ws T st ++ Rt.rootsZ pr rc rw nx ar cr rts part)
    (fun v l => ∃ (pM pk bm pp qpc qbw po qc qw qi : Nat) (ds : List (Nat × Nat × Nat)) (ps : List (Nat × Nat)) (da : Option Addr) (dc : Nat) (wa : Option Addr) (wc : Nat), ds.length = W ∧ ps.length = W ∧ (∀ (j : Nat) (y : Nat × Nat), ps[j]? = some y → y.1 = j) ∧ v = .tuple #[ptr pM 0, .int .i64 0] ∧
      l = mkB pM p pr pk pp po da W dc wa W wc K 0 0 :: (heapL p bw bs n ws T st ++ (marksL pk bm n (List.replicate ((n + 63) / 64) 0) ++ (Rt.rootsZ pr rc rw 0 ar cr rts part ++ (Sp.spillZ pp qpc qbw (List.replicate (min n 65534 + 2) 0) (min n 65534) ++ (Of.offerZ po qc qw qi 0 (List.replicate W false) ++
        [row 153 1 da W dc (dqV ds), bigM (dqN rm) ds, row 156 1 wa W wc (wkV ps), bigM (wkN pM) ps])))))) := by
  have htn := h.tn
  have hnb := h.nb
  refine Does.of tiok Tryz.func33 (by kernel_rfl) rfl Tryz.ntmps33 rfl ?_
  intro W' fr
  repeat' (first | refine Wka ?_ | intro _ | apply And.intro)
  refine JO_l (OL_call [] rfl rfl rfl (fits_ok W rm K ⟨by omega, by omega, by omega, by omega, by omega, by omega⟩) rfl) rfl rfl ?_; rintro _ _ ⟨_, ⟨rfl, rfl⟩, rfl⟩
  repeat' (first | refine Wka ?_ | intro _ | apply And.intro)
  refine JO_l (OL_call [1, 1, 1] rfl rfl rfl (Check_ok h hr) rfl) rfl rfl ?_
  rintro _ _ ⟨_, ⟨rfl, rfl⟩, rfl⟩
  repeat' (first | refine Wka ?_ | intro _ | apply And.intro)
  refine JO_l (OL_call [4, 4, 4] rfl rfl rfl (Rt.rootsAll hl) rfl) rfl rfl ?_
  rintro _ _ ⟨_, ⟨a2, cap2, hn2, rfl, rfl⟩, rfl⟩
  repeat' (first | refine Wka ?_ | intro _ | apply And.intro)
  have hR2 : Reads (row 3 1 a2 rts.length cap2 (intsV rts)) 1 rts.length a2 cap2 (intsV rts) := Reads.row (by simp) hn2
  rename_i b5
  refine JO_l (OL_call [0, 6, 3, 3, 3] rfl rfl rfl (ContainsFunc_roots (b := b5) hR2 (by omega) h hc hz) rfl) rfl rfl ?_
  rintro _ _ ⟨_, ⟨rfl, rfl⟩, rfl⟩
  repeat' (first | refine Wka ?_ | intro _ | apply And.intro)
  refine JO_l (OL_call [3, 3, 3] rfl rfl rfl (heapSize) rfl) rfl rfl ?_; rintro _ _ ⟨_, ⟨rfl, rfl⟩, rfl⟩
  repeat' (first | refine Wka ?_ | intro _ | apply And.intro)
  refine JO_l (OL_call [] rfl rfl rfl (marksNew n h1 hnb) rfl) rfl rfl ?_
  rintro _ _ ⟨_, ⟨pk, bm, rfl, rfl⟩, rfl⟩
  repeat' (first | refine Wka ?_ | intro _ | apply And.intro)
  refine JO_l (OL_call [3, 3, 3] rfl rfl rfl heapSize rfl) rfl rfl ?_
  rintro _ _ ⟨_, ⟨rfl, rfl⟩, rfl⟩
  repeat' (first | refine Wka ?_ | intro _ | apply And.intro)
  rw [show (if (65534 : Int) < (n : Int) then (65534 : Int) else (n : Int)) = ((min n 65534 : Nat) : Int) by split <;> omega]
  refine JO_l (OL_call [] rfl rfl rfl (Sp.spillNew_ok (min n 65534) (by omega) (by omega)) rfl) rfl rfl ?_
  rintro _ _ ⟨_, ⟨pp, qpc, qbw, rfl, rfl⟩, rfl⟩
  repeat' (first | refine Wka ?_ | intro _ | apply And.intro)
  refine JO_l (OL_call [] rfl rfl rfl (Of.offerNew_ok W hW.1 hW.2) rfl) rfl rfl ?_
  rintro _ _ ⟨_, ⟨po, qc, qw, qi, rfl, rfl⟩, rfl⟩
  repeat' (first | refine Wka ?_ | intro _ | apply And.intro)
  rename_i pM _ _ _
  refine J_loop (α := Nat × List (Nat × Nat × Nat) × List (Nat × Nat) × (Option Addr × Nat) × (Option Addr × Nat)) (fun y => y.1 ≤ W ∧ y.2.1.length = y.1 ∧ y.2.2.1.length = y.1 ∧ ∀ (j : Nat) (z : Nat × Nat), y.2.2.1[j]? = some z → z.1 = j)
    (fun y => [(1, ptr pr 0), (3, .int .i64 rm), (12, ptr pM 0), (62, .int .i64 W), (63, .int .i64 y.1)])
    (fun y => mkB pM p pr pk pp po y.2.2.2.1.1 y.1 y.2.2.2.1.2 y.2.2.2.2.1 y.1 y.2.2.2.2.2 K 0 0 :: row 153 1 y.2.2.2.1.1 y.1 y.2.2.2.1.2 (dqV y.2.1) :: row 156 1 y.2.2.2.2.1 y.1 y.2.2.2.2.2 (wkV y.2.2.1) :: bigM (dqN rm) y.2.1 :: bigM (wkN pM) y.2.2.1 ::
      (Of.offerZ po qc qw qi 0 (List.replicate W false) ++ (Sp.spillZ pp qpc qbw (List.replicate (min n 65534 + 2) 0) (min n 65534) ++ (heapL p bw bs n ws T st ++ (marksL pk bm n (List.replicate ((n + 63) / 64) 0) ++ Rt.rootsZ pr rc rw nx ar cr rts part)))))
    (fun y => W - y.1) (0, [], [], (none, 0), (none, 0)) ⟨Nat.zero_le _, rfl, rfl, fun j z hj => by simp at hj⟩ Sgt (fun H hl => ?_) ?_
  · have h1 := hl.pick (is := [0, 0, 0, 0, 0, 0, 0, 0, 0, 0, 0, 2, 2, 2]) rfl
    exact (row_nil (T := 153) (sz := 1) (row_nil (T := 156) (sz := 1) (Stars.shut (ps := []) (Stars.shut (ps := []) h1)))).perm (picks_perm (is := [4]) rfl)
  rintro ⟨k, ds, ps, ⟨da, dc⟩, ⟨wa, wc⟩⟩ ⟨e1, e2, e3, e4⟩
  dsimp only at e1 e2 e3 e4 ⊢
  repeat' (first | refine Wkb ?_ | intro _ | apply And.intro)
  · rename_i hlt
    refine J_block ?_
    repeat' (first | refine Wka ?_ | intro _ | apply And.intro)
    refine JO_l (OL_call [] rfl rfl rfl (deqNew_ok rm hrm.1 hrm.2) rfl) rfl rfl ?_
    rintro _ _ ⟨_, ⟨dp, dpc, dbw, rfl, rfl⟩, rfl⟩
    repeat' (first | refine Wka ?_ | intro _ | apply And.intro)
    refine JO_l (OL_buildSlice (cs := [ptr dp 0]) rfl rfl rfl rfl rfl rfl rfl rfl) rfl rfl ?_
    rintro _ _ ⟨b, rfl, rfl⟩
    refine JO_l (OL_append rfl rfl rfl rfl rfl P4 ((Reads.blk rfl).src (.head _)) rfl rfl (fun _ h => by cases h) (by omega) (by omega) (by decide)) rfl rfl ?_
    rintro _ _ ⟨da', dc', rfl, rfl⟩
    repeat' (first | refine Wka ?_ | intro _ | apply And.intro)
    rename_i c
    refine JO_l (OL_buildSlice (cs := [ptr c 0]) rfl rfl rfl rfl rfl rfl rfl rfl) rfl rfl ?_
    rintro _ _ ⟨b2, rfl, rfl⟩
    refine JO_l (OL_append rfl rfl rfl rfl rfl P7 ((Reads.blk rfl).src (.head _)) rfl rfl (fun _ h => by cases h) (by omega) (by omega) (by decide)) rfl rfl ?_
    rintro _ _ ⟨wa', wc', rfl, rfl⟩
    repeat' (first | refine Wka ?_ | intro _ | apply And.intro)
    refine At_round (k + 1, ds ++ [(dp, dpc, dbw)], ps ++ [(k, c)], (da', dc'), (wa', wc')) (by show W - (k + 1) < W - k; omega) ⟨by show k + 1 ≤ W; omega, by simp [e2], by simp [e3], fun j z hj => ?_⟩ Sgt (fun H hl => ?_)
    · dsimp only at hj
      rcases Nat.lt_or_ge j ps.length with hlt2 | hge
      · rw [List.getElem?_append_left hlt2] at hj
        exact e4 j z hj
      · rw [List.getElem?_append_right hge] at hj
        have : j - ps.length = 0 := by
          have := (List.getElem?_eq_some_iff.1 hj).1
          simp at this
          omega
        rw [this] at hj
        injection hj with hj
        rw [← hj]
        show k = j
        omega
    · have h1 := hl.perm (picks_perm (is := [6, 6, 6]) rfl)
      have h2 := bigM.snoc (f := dqN rm) (x := (dp, dpc, dbw)) (Stars.shut (ps := deqZ dp dpc dbw (List.replicate (rm + 2) 0) rm) h1)
      have h3 := bigM.snoc (f := wkN pM) (x := (k, c)) (h2.perm (picks_perm (is := [4, 6]) rfl))
      have v1 : dqV (ds ++ [(dp, dpc, dbw)]) = dqV ds ++ [ptr dp 0] := by simp [dqV]
      have v2 : wkV (ps ++ [(k, c)]) = wkV ps ++ [ptr c 0] := by simp [wkV]
      dsimp only
      rw [v1, v2]
      exact h3.pick (is := [2, 4, 2, 1, 0, 2, 2, 2, 2, 2, 2, 2, 2, 2, 2, 2, 2, 2]) rfl
  · obtain rfl : k = W := by omega
    repeat' (first | refine Wka ?_ | intro _ | apply And.intro)
    refine JO_l (OL_call [15, 15, 15] rfl rfl rfl Rt.Open_spec rfl) rfl rfl ?_
    rintro _ _ ⟨_, ⟨rfl, rfl⟩, rfl⟩
    repeat' (first | refine Wka ?_ | intro _ | apply And.intro)
    exact At_ret rfl rfl (.tmp rfl (.tmp rfl .nil)) rfl (is := [3, 12, 12, 12, 12, 12, 0, 0, 0, 7, 7, 4, 4, 4, 0, 1, 0, 0]) rfl ⟨pM, pk, bm, pp, qpc, qbw, po, qc, qw, qi, ds, ps, da, dc, wa, wc, e2, e3, e4, rfl, rfl⟩
end ops
end Go.Proofs.YtfmkjbmogfhpbaaGreatDoor.Mk
set_option maxRecDepth 8000
namespace Go.Proofs.YtfmkjbmogfhpbaaGreatDoor.Mk
open Go.Sep
theorem Stars_map : ∀ {l l' : List HP} {H : PH}, l.length = l'.length → (∀ (i : Nat) (a b : HP), l[i]? = some a → l'[i]? = some b → ∀ h, a h → b h) → Stars l H → Stars l' H
  | [], [], H, _, _, h => h
  | a :: l, b :: l', H, hl, hk, ⟨h1, h2, ap, s1, s2, ha, hr⟩ => ⟨h1, h2, ap, s1, s2, hk 0 a b rfl rfl h1 ha, Stars_map (by simpa using hl) (fun i x y hx hy => hk (i + 1) x y hx hy) hr⟩
  | [], b :: l', H, hl, _, _ => by simp at hl
  | a :: l, [], H, hl, _, _ => by simp at hl
theorem bigM_map {α β : Type} {f : α → HP} {g : β → HP} {xs : List α} {ys : List β} {l : List HP} {H : PH} (hl : xs.length = ys.length) (hk : ∀ (i : Nat) (x : α) (y : β), xs[i]? = some x → ys[i]? = some y → ∀ h, f x h → g y h) (h : Stars (bigM f xs :: l) H) : Stars (bigM g ys :: l) H :=
  h.weak fun h0 hh => Stars_map (by simp [hl]) (fun i a b ha hb => by
    rw [List.getElem?_map] at ha hb
    obtain ⟨x, hx, rfl⟩ := Option.map_eq_some_iff.1 ha
    obtain ⟨y, hy, rfl⟩ := Option.map_eq_some_iff.1 hb
    exact hk i x y hx hy) hh
section ops
variable {p bw bs n T : Nat} {ws : List Int} {st : List Bool} {os : List RO}
theorem idle0 {W : Nat} : idleX ((List.range W).map wk0) = List.replicate W false := by
  unfold idleX
  rw [List.map_map]
  rw [List.eq_replicate_iff]
  refine ⟨by simp, fun b hb => ?_⟩
  obtain ⟨k, _, rfl⟩ := List.mem_map.1 hb
  rfl
theorem cnt0 {W : Nat} : cntX ((List.range W).map wk0) = 0 := by
  unfold cntX
  rw [List.countP_eq_zero]
  intro x hx
  obtain ⟨k, _, rfl⟩ := List.mem_map.1 hx
  exact (by decide : ¬ decide (9 ≤ 0) = true)
theorem MNew_run {pr rc rw cr : Nat} {nx : Int} {ar : Option Addr} {rts : List Int} {part W rm K : Nat} (h : HT n T ws st) (hc : Ch ws 0 os T) (hr : RefsOk ws st) (h1 : 1 ≤ n) (h2 : n ≤ 65534) (hz : ∀ z ∈ rts, z = 0 ∨ ∃ (j : Nat) (o : RO), os[j]? = some o ∧ z = (o.i : Int) + 1 ∧ o.k ≠ 15) (hl : rts.length ≤ 1024)
    (hW : 1 ≤ W ∧ W ≤ 7) (hrm : 2 ≤ rm ∧ rm ≤ 1024) (hK : 1 ≤ K ∧ K ≤ 4095) (hp : 1 ≤ part ∧ part ≤ 64) :
    Does Tryz.prog 33 [ptr p 0, ptr pr 0, .int .i64 W, .int .i64 rm, .int .i64 K] (heapL p bw bs n ws T st ++ Rt.rootsZ pr rc rw nx ar cr rts part)
    (fun v l => ∃ E : EV, EOk E ∧ p = E.p ∧ bw = E.bw ∧ bs = E.bs ∧ n = E.n ∧ T = E.T ∧ ws = E.ws ∧ st = E.st ∧ os = E.os ∧ pr = E.pr ∧ rc = E.rc ∧ rw = E.rw ∧ ar = E.ar ∧ cr = E.cr ∧ rts = E.rts ∧ part = E.part ∧ W = E.W ∧ rm = E.rm ∧ K = E.K ∧ E.rS = E.n ∧
      v = .tuple #[ptr E.pM 0, .int .i64 0] ∧ l = stL E (ms0 E.n E.W E.rm E.rS) 0 0) := by
  refine (MNew_spec h hc hr h1 hz hl ⟨hW.1, by omega⟩ hrm hK).post ?_
  rintro v l ⟨pM, pk, bm, pp, qpc, qbw, po, qc, qw, qi, ds, ps, da, dc, wa, wc, e1, e2, e3, rfl, rfl⟩
  have hmin : min n 65534 = n := by omega
  rw [hmin]
  let E : EV := ⟨pM, p, bw, bs, n, T, ws, st, pk, bm, pr, rc, rw, ar, cr, rts, part, pp, qpc, qbw, n, po, qc, qw, qi, da, dc, wa, wc, K, W, rm, fun d => (ds.getD d (0, 0, 0)).1, fun d => (ds.getD d (0, 0, 0)).2.1, fun d => (ds.getD d (0, 0, 0)).2.2, fun d => (ps.getD d (0, 0)).2, os⟩
  have v1 : dqV ds = dptrs E := by
    apply List.ext_getElem?
    intro i
    rw [List.getElem?_map]
    by_cases hi : i < W
    · have hx : ds[i]? = some (ds[i]'(by omega)) := List.getElem?_eq_getElem _
      rw [show (dptrs E)[i]? = some (ptr (E.dp i) 0) from dptr_at hi, hx]
      show some (ptr _ 0) = some (ptr ((ds.getD i (0, 0, 0)).1) 0)
      rw [List.getD_eq_getElem?_getD, hx]
      rfl
    · rw [List.getElem?_eq_none (by omega), List.getElem?_eq_none (by simp [E]; omega)]
      rfl
  have v2 : wkV ps = wptrs E := by
    apply List.ext_getElem?
    intro i
    rw [List.getElem?_map]
    by_cases hi : i < W
    · have hx : ps[i]? = some (ps[i]'(by omega)) := List.getElem?_eq_getElem _
      rw [show (wptrs E)[i]? = some (ptr (E.wp i) 0) from wptr_at hi, hx]
      show some (ptr _ 0) = some (ptr ((ps.getD i (0, 0)).2) 0)
      rw [List.getD_eq_getElem?_getD, hx]
      rfl
    · rw [List.getElem?_eq_none (by omega), List.getElem?_eq_none (by simp [E]; omega)]
      rfl
  refine ⟨_, ⟨E, ⟨h, hc, hr, hz, hp.1, hp.2, hK.1, hK.2, hW.1, hW.2, h2, hl⟩, rfl, rfl, rfl, rfl, rfl, rfl, rfl, rfl, rfl, rfl, rfl, rfl, rfl, rfl, rfl, rfl, rfl, rfl, rfl, rfl, rfl⟩, fun H hl => ?_⟩
  have h3 := bigM_map (g := dqH E) (ys := (List.range W).map (dq0 rm)) (by simp [e1]) (fun i x y hx hy hh hq => by
    obtain ⟨hi, rfl⟩ := range_at hy
    show dqH E (dq0 rm i) hh
    have : dqH E (dq0 rm i) = dqN rm x := by
      unfold dqH dqN
      show big (deqZ (ds.getD i (0, 0, 0)).1 (ds.getD i (0, 0, 0)).2.1 (ds.getD i (0, 0, 0)).2.2 (List.replicate (rm + 2) 0) rm) = _
      rw [List.getD_eq_getElem?_getD, hx]
      rfl
    rw [this]; exact hq) (hl.perm (picks_perm (is := [15]) rfl))
  have h4 := bigM_map (g := wkH E) (ys := (List.range W).map wk0) (by simp [e2]) (fun i x y hx hy hh hq => by
    obtain ⟨hi, rfl⟩ := range_at hy
    have hxi := e3 i x hx
    show ∃ d, In64 d ∧ Stars (wkL E (wk0 i) d) hh
    refine ⟨0, by constructor <;> decide, ?_⟩
    have : wkL E (wk0 i) 0 = [wkN pM x] := by
      unfold wkN
      rw [hxi]
      have e : x.2 = (ps.getD i (0, 0)).2 := by rw [List.getD_eq_getElem?_getD, hx]; rfl
      rw [e]
      rfl
    rw [this]
    exact one_star (Sub.refl _) hq) (h3.perm (picks_perm (is := [17]) rfl))
  show Stars (shT E 0 0 _ _ _ ((cntX ((List.range W).map wk0) : Nat) : Int) (idleX ((List.range W).map wk0)) (bigM (dqH E) ((List.range W).map (dq0 rm))) ++ [Rw E, bigM (wkH E) ((List.range W).map wk0)]) H
  rw [idle0, cnt0]
  show Stars (mB E 0 0 :: (heapL p bw bs n ws T st ++ (marksL pk bm n (List.replicate ((n + 63) / 64) 0) ++ (Rt.rootsZ pr rc rw 0 ar cr rts part ++ (Sp.spillZ pp qpc qbw (List.replicate (n + 2) 0) n ++ (Of.offerZ po qc qw qi 0 (List.replicate W false) ++ [row 153 1 da W dc (dptrs E), bigM (dqH E) ((List.range W).map (dq0 rm)), row 156 1 wa W wc (wptrs E), bigM (wkH E) ((List.range W).map wk0)])))))) H
  rw [← v1, ← v2]
  exact h4.pick (is := [2, 2, 2, 2, 2, 2, 2, 2, 2, 2, 2, 2, 2, 2, 2, 1, 1, 0]) rfl
end ops
end Go.Proofs.YtfmkjbmogfhpbaaGreatDoor.Mk
namespace Go.Proofs.YtfmkjbmogfhpbaaGreatDoor
open Go.Sep
structure RSt where
  xs : List WX
  sts : List Int
  wds : List Int
  mv : Int
  tv : Int
  C : Nat
  D : Nat
abbrev RPhi (T w nR : Nat) (ws : List Int) (os : List RO) (ms : List Nat) (s : RSt) : Nat := PhiI T w nR ws os ms s.xs s.C s.D
abbrev ROv (T nR : Nat) (os : List RO) (ms : List Nat) (s : RSt) : Prop := OverP s.sts nR (partsI T (szL (lvs ms os)) : Nat)
structure ROk (n T w nR : Nat) (ws : List Int) (os : List RO) (ms : List Nat) (W : Nat) (s : RSt) : Prop where
  si : ∃ Q A Z, SI n T w nR ws os ms s.xs s.sts s.wds s.mv s.C s.D Q A Z
  xl : s.xs.length = W
  t0 : 0 ≤ s.tv
  cd : s.C + s.D + RPhi T w nR ws os ms s ≤ 1000000000
def RRnd (T w nR : Nat) (ws : List Int) (os : List RO) (ms : List Nat) (s : RSt) (m0 : Nat) (P : Nat → Prop) : Prop :=
  ROv T nR os ms s ∨ RPhi T w nR ws os ms s < m0 ∨ (RPhi T w nR ws os ms s ≤ m0 ∧ ∀ (j : Nat) (x : WX), P j → s.xs[j]? = some x → Stk nR s.sts x)
def RNx (T w nR : Nat) (ws : List Int) (os : List RO) (ms : List Nat) (s s' : RSt) (j : Nat) : Prop :=
  (ROv T nR os ms s ∧ s' = s) ∨ (¬ ROv T nR os ms s ∧ (s'.tv = s.tv ∨ s'.tv = s.tv + 1) ∧ (RPhi T w nR ws os ms s' < RPhi T w nR ws os ms s ∨ (s'.xs = s.xs ∧ s'.sts = s.sts ∧ s'.C = s.C ∧ s'.D = s.D ∧ ∀ x, s.xs[j]? = some x → Stk nR s.sts x)))
theorem RRnd.step {T w nR : Nat} {ws : List Int} {os : List RO} {ms : List Nat} {s s' : RSt} {m0 j : Nat} {P P' : Nat → Prop} (h : RRnd T w nR ws os ms s m0 P) (hn : RNx T w nR ws os ms s s' j) (hP : ∀ i, P' i → P i ∨ i = j) : RRnd T w nR ws os ms s' m0 P' := by
  rcases hn with ⟨ho, rfl⟩ | ⟨hno, _, hlt | ⟨e1, e2, e3, e4, hk⟩⟩
  · exact .inl ho
  · rcases h with ho | h1 | ⟨h1, _⟩
    · exact absurd ho hno
    · exact .inr (.inl (by omega))
    · exact .inr (.inl (by omega))
  · have ep : RPhi T w nR ws os ms s' = RPhi T w nR ws os ms s := by unfold RPhi; rw [e1, e3, e4]
    rcases h with ho | h1 | ⟨h1, h2⟩
    · exact absurd ho hno
    · exact .inr (.inl (by omega))
    · refine .inr (.inr ⟨by omega, fun i x hi hx => ?_⟩)
      rw [e1] at hx
      rw [e2]
      rcases hP i hi with hi | rfl
      · exact h2 i x hi hx
      · exact hk x hx
theorem RRnd.done {n T w nR W : Nat} {ws : List Int} {os : List RO} {ms : List Nat} {s : RSt} {m0 : Nat} {P : Nat → Prop} (h : RRnd T w nR ws os ms s m0 P) (hs : ROk n T w nR ws os ms W s) (h1 : 1 ≤ W) (hP : ∀ j, j < W → P j) : ROv T nR os ms s ∨ RPhi T w nR ws os ms s < m0 := by
  rcases h with ho | h1 | ⟨_, h2⟩
  · exact .inl ho
  · exact .inr h1
  · obtain ⟨Q, A, Z, hS⟩ := hs.si
    exact .inl (hS.stuck (by rw [hs.xl]; exact h1) fun j x hj => h2 j x (hP j (by have := (List.getElem?_eq_some_iff.1 hj).1; rw [hs.xl] at this; exact this)) hj)
section ops
variable {ps pf p bw bs pm bm bst bf n T w nR pw bw2 pz bz wc W : Nat} {wa : Option Addr} {ws : List Int} {st : List Bool} {os : List RO} {ms : List Nat} {rs : List RG} {fs : List Int} {s : RSt}
abbrev sldR (ps pf p bw bs pm bm bst bf n T w nR pw bw2 pz bz : Nat) (ws : List Int) (st : List Bool) (ms : List Nat) (rs : List RG) (fs : List Int) (wa : Option Addr) (wc : Nat) (S : Nat) (s : RSt) : List HP :=
  sldS ps pf p bw bs pm bm bst bf n T w nR pw bw2 pz bz ws st ms rs fs wa wc S s.sts s.wds s.xs s.mv s.tv
theorem Step_run (F : SF n T w nR ws st os ms rs fs) (hs : ROk n T w nR ws os ms W s) (hW : W ≤ 64) {j : Nat} (hj : j < W) (ht : In64 (s.tv + 1)) :
    Does Tryz.prog 37 [ptr ps 0, .int .i64 j] (sldR ps pf p bw bs pm bm bst bf n T w nR pw bw2 pz bz ws st ms rs fs wa wc (szL (lvs ms os)) s)
    (fun v l => ∃ (s' : RSt) (e : Int), ROk n T w nR ws os ms W s' ∧ RNx T w nR ws os ms s s' j ∧ ((ROv T nR os ms s ∧ e = 12) ∨ (¬ ROv T nR os ms s ∧ e = 0)) ∧ v = .int .i64 e ∧
      l = sldR ps pf p bw bs pm bm bst bf n T w nR pw bw2 pz bz ws st ms rs fs wa wc (szL (lvs ms os)) s') := by
  obtain ⟨⟨Q, A, Z, hS⟩, hxl, ht0, hcd⟩ := hs
  have hsl := hS.sl
  have hnR := F.nRT
  have htn := F.h.tn
  have hn6 := F.n6
  obtain ⟨x, hx⟩ : ∃ x, s.xs[j]? = some x := ⟨s.xs[j]'(by omega), List.getElem?_eq_getElem _⟩
  by_cases ho : ROv T nR os ms s
  · refine (SlStep_end ⟨by omega, by omega⟩ hsl (by omega) ho).mono ?_
    rintro v l ⟨rfl, rfl⟩
    exact ⟨s, 12, ⟨⟨Q, A, Z, hS⟩, hxl, ht0, hcd⟩, .inl ⟨ho, rfl⟩, .inl ⟨ho, rfl⟩, rfl, rfl⟩
  · refine (Step_spec F hS hx (by omega) ht hcd ho).mono ?_
    rintro v l ⟨x', sts', wds', mv', tv', C', D', ⟨⟨Q', A', Z', hS'⟩, g1, g2, g3, g4⟩, rfl, rfl⟩
    refine ⟨⟨s.xs.set j x', sts', wds', mv', tv', C', D'⟩, 0, ⟨⟨Q', A', Z', hS'⟩, by rw [List.length_set]; exact hxl, by dsimp only; omega, Nat.le_trans g2 hcd⟩, .inr ⟨ho, g1, ?_⟩, .inr ⟨ho, rfl⟩, rfl, rfl⟩
    rcases g4 with g4 | ⟨k1, rfl, k3, k4, k5⟩
    · exact .inl g4
    · refine .inr ⟨set_sameV hx, k3, k4, k5, fun y hy => ?_⟩
      rw [hx] at hy; injection hy with hy; rw [← hy]; exact k1
theorem Phi_new {xs : List WX} (hxs : ∀ (j : Nat) (y : WX), xs[j]? = some y → y = wk0 j y.c) (hc : Ch ws 0 os T) (hR : nR = numR w T) (h1w : 1 ≤ w) (htn : T ≤ n) (hW : xs.length ≤ 64) : PhiI T w nR ws os ms xs 0 0 < 10 * (n + 10) * (n + 10) := by
  have hnR : nR ≤ n := by rw [hR]; exact Nat.le_trans (numR_le h1w) htn
  have hs := hc.sz
  have h2 : szL (lvs ms os) ≤ szL os := szL_filter
  have h3 := len_le_sz (L := lvs ms os)
  have a1 : ∀ m, m ≤ nR → ((List.range m).map (cRI w nR (lvs ms os))).sum ≤ m * (nR + 4) + (befR w m (lvs ms os)).length + 2 * szL (befR w m (lvs ms os)) := by
    intro m
    induction m with
    | zero => intro _; exact Nat.zero_le _
    | succ m ih =>
      intro hm
      have h1 := ih (by omega)
      rw [List.range_succ, List.map_append, List.sum_append]
      simp only [List.map_cons, List.map_nil, List.sum_cons, List.sum_nil]
      rw [befR_len, befR_next, Nat.succ_mul]
      rw [show cRI w nR (lvs ms os) m = nR + 4 + (inR w m (lvs ms os)).length + 2 * lvI w (lvs ms os) m from rfl]
      have : lvI w (lvs ms os) m = szL (inR w m (lvs ms os)) := rfl
      omega
  have a2 := a1 nR (Nat.le_refl _)
  rw [hR, befR_all ms h1w hc, ← hR] at a2
  have a3 : (xs.map (phiW nR ws)).sum ≤ 64 * (nR + 5) := by
    have : ∀ l : List WX, (∀ y ∈ l, y.fn = fnC) → (l.map (phiW nR ws)).sum = l.length * (nR + 5) := by
      intro l
      induction l with
      | nil => intro _; simp
      | cons y r ih =>
        intro hl
        rw [List.map_cons, List.sum_cons, ih fun z hz => hl z (.tail _ hz), phi_C (hl y (.head _)), List.length_cons, Nat.succ_mul]
        omega
    rw [this xs fun y hy => by
      obtain ⟨i, hi⟩ := List.getElem?_of_mem hy
      rw [hxs i y hi]]
    exact Nat.mul_le_mul_right _ hW
  have a4 : nR * (nR + 4) ≤ n * (n + 4) := Nat.mul_le_mul hnR (by omega)
  have a5 : partsI T (szL (lvs ms os)) ≤ n + 1 := by unfold partsI; omega
  have a6 : 10 * (n + 10) * (n + 10) = 10 * (n * n) + 200 * n + 1000 := by
    rw [Nat.mul_assoc, Nat.add_mul, Nat.mul_add, Nat.mul_add]
    omega
  have a7 : n * (n + 4) = n * n + n * 4 := Nat.mul_add ..
  rw [a7] at a4
  unfold PhiI
  rw [List.drop_zero]
  omega
end ops
open Go.Sep
section ops
variable {ps pf p bw bs pm bm bst bf n T w nR pw bw2 pz bz wc W : Nat} {wa : Option Addr} {ws : List Int} {st : List Bool} {os : List RO} {ms : List Nat} {rs : List RG} {fs : List Int} {s : RSt}
theorem New_run (words : Int) (wk : Nat) (hw : 1 ≤ wk ∧ wk ≤ 64) (h64 : In64 words) (h : HT n T ws st) (hc : Ch ws 0 os T) (hM : MI n ms) (hld : LeadP os) (hyes : RightP ms os) (hn1 : 1 ≤ n) (hn2 : n ≤ 5000) :
    Does Tryz.prog 107 [ptr p 0, ptr pm 0, .int .i64 words, .int .i64 wk] (heapL p bw bs n ws T st ++ marksL pm bm n ms)
    (fun v l => ∃ (ps pf w nR bst bf pw bw2 pz bz : Nat) (rs : List RG) (fs : List Int) (wa : Option Addr) (wc : Nat) (s : RSt), SF n T w nR ws st os ms rs fs ∧ ROk n T w nR ws os ms wk s ∧ RPhi T w nR ws os ms s < 10 * (n + 10) * (n + 10) ∧ s.tv = 0 ∧ s.mv = 0 ∧
      v = .tuple #[ptr ps 0, .int .i64 0] ∧ l = sldR ps pf p bw bs pm bm bst bf n T w nR pw bw2 pz bz ws st ms rs fs wa wc (szL (lvs ms os)) s) := by
  refine (SliderNew_ok words wk hw h64 h hc hM hld hyes hn1).mono ?_
  rintro v l ⟨ps, pf, w, nR, bst, bf, pw, bw2, pz, bz, rs, fs, wa, wc, xs, hw2, hF, hnR, hxl, hxs, rfl, rfl⟩
  have hs := hc.sz
  have h2 : szL (lvs ms os) ≤ szL os := szL_filter
  have hP := Phi_new (ms := ms) hxs hc hnR (by omega) h.tn (by omega)
  have hb : (n + 10) * (n + 10) ≤ 5010 * 5010 := Nat.mul_le_mul (by omega) (by omega)
  have e : ((T : Int) - ((szL (lvs ms os) : Nat) : Int) + 16 - 1) / 16 = ((partsI T (szL (lvs ms os)) : Nat) : Int) := by unfold partsI; omega
  rw [e]
  have hP2 : PhiI T w nR ws os ms xs 0 0 < 10 * ((n + 10) * (n + 10)) := by rw [← Nat.mul_assoc]; exact hP
  exact ⟨ps, pf, w, nR, bst, bf, pw, bw2, pz, bz, rs, fs, wa, wc, ⟨xs, List.replicate (3 + nR) 0, ws, 0, 0, 0, 0⟩, ⟨h, hc, hM, hF, hnR, hyes, by omega⟩, ⟨⟨_, _, _, SI.new h.wl hxs⟩, hxl, Int.le_refl _, by show 0 + 0 + PhiI T w nR ws os ms xs 0 0 ≤ _; omega⟩, hP, rfl, rfl, rfl, rfl⟩
theorem Over_run (F : SF n T w nR ws st os ms rs fs) (hs : ROk n T w nR ws os ms W s) : Does Tryz.prog 75 [ptr ps 0] (sldR ps pf p bw bs pm bm bst bf n T w nR pw bw2 pz bz ws st ms rs fs wa wc (szL (lvs ms os)) s)
    (fun v l => ∃ t : Bool, (t = true ↔ ROv T nR os ms s) ∧ v = .bool t ∧ l = sldR ps pf p bw bs pm bm bst bf n T w nR pw bw2 pz bz ws st ms rs fs wa wc (szL (lvs ms os)) s) := by
  obtain ⟨Q, A, Z, hS⟩ := hs.si
  have hnR := F.nRT
  have htn := F.h.tn
  have hn6 := F.n6
  exact Over_spec hS.sl (by omega)
theorem Heap_run (F : SF n T w nR ws st os ms rs fs) (h1n : 1 ≤ n) (hs : ROk n T w nR ws os ms W s) (ho : ROv T nR os ms s) : Does Tryz.prog 38 [ptr ps 0] (sldR ps pf p bw bs pm bm bst bf n T w nR pw bw2 pz bz ws st ms rs fs wa wc (szL (lvs ms os)) s)
    (fun v l => ∃ (p' bw' bs' : Nat) (st' : List Bool), HT n (szL (lvs ms os)) (NWI T ws ms os) st' ∧ v = .tuple #[ptr p' 0, .int .i64 0] ∧ l = heapL p' bw' bs' n (NWI T ws ms os) (szL (lvs ms os)) st' ++ sldR ps pf p bw bs pm bm bst bf n T w nR pw bw2 pz bz ws st ms rs fs wa wc (szL (lvs ms os)) s) := by
  obtain ⟨Q, A, Z, hS⟩ := hs.si
  exact Heap14_ok F h1n hS ho
end ops
end Go.Proofs.YtfmkjbmogfhpbaaGreatDoor
set_option maxRecDepth 8000
namespace Go.Proofs.YtfmkjbmogfhpbaaGreatDoor.Ph
open Go.Sep Mk
structure PV where
  pc : Nat
  reg : Int
  ra : Option Addr
  rk : Nat
structure SV where
  ps : Nat
  pf : Nat
  w : Nat
  nR : Nat
  bst : Nat
  bf : Nat
  pw : Nat
  bw2 : Nat
  pz : Nat
  bz : Nat
  rs : List RG
  fs : List Int
  wa : Option Addr
  wc : Nat
inductive CS where
  | mk (s : MS)
  | sl (S : SV) (ms : List Nat) (r : RSt) (tv sv : Int)
abbrev colB (E : EV) (V : PV) (slide : Value) (steps : Int) : HP :=
  blk V.pc [.int .i64 E.W, .int .i64 E.rm, .int .i64 E.K, .int .i64 E.part, .int .i64 V.reg, ptr E.pM 0, ptr E.p 0, .slice V.ra E.rts.length V.rk, slide, .int .i64 steps] 102
abbrev rowR (E : EV) (V : PV) : HP := row 3 1 V.ra E.rts.length V.rk (intsV E.rts)
abbrev sldX (E : EV) (S : SV) (ms : List Nat) (r : RSt) : List HP := sldR S.ps S.pf E.p E.bw E.bs E.pk E.bm S.bst S.bf E.n E.T S.w S.nR S.pw S.bw2 S.pz S.bz E.ws E.st ms S.rs S.fs S.wa S.wc (szL (lvs ms E.os)) r
abbrev colM (E : EV) (V : PV) (s : MS) (steps : Int) : List HP := colB E V (.pointer none) steps :: rowR E V :: stL E s s.tv s.m
abbrev colZ (E : EV) (V : PV) (S : SV) (ms : List Nat) (r : RSt) (tv sv : Int) (steps : Int) : List HP := colB E V (ptr S.ps 0) steps :: rowR E V :: mB E tv sv :: sldX E S ms r
abbrev colS (E : EV) (V : PV) (steps : Int) : CS → List HP
  | .mk s => colM E V s steps
  | .sl S ms r tv sv => colZ E V S ms r tv sv steps
abbrev ZOv (E : EV) (S : SV) (ms : List Nat) (r : RSt) : Prop := ROv E.T S.nR E.os ms r
abbrev ZPhi (E : EV) (S : SV) (ms : List Nat) (r : RSt) : Nat := RPhi E.T S.w S.nR E.ws E.os ms r
structure ZOk (E : EV) (S : SV) (ms : List Nat) (r : RSt) : Prop where
  rm : RMk E.os E.rts ms
  rd : ∀ i, bitB ms i = true → ∃ (j : Nat) (o : RO), E.os[j]? = some o ∧ o.i = i ∧ Rch E.os E.rts j
  sf : SF E.n E.T S.w S.nR E.ws E.st E.os ms S.rs S.fs
  ok : ROk E.n E.T S.w S.nR E.ws E.os ms E.W r
structure KOk (E : EV) (s : MS) : Prop where
  inv : EI E s
  cap : Phi E.os E.rts.length E.part s ≤ 200 * E.T + 112
def COk (E : EV) (steps : Nat) : CS → Prop
  | .mk s => KOk E s ∧ s.m ≤ steps
  | .sl S ms r tv sv => ZOk E S ms r ∧ r.tv ≤ steps
abbrev Cn (E : EV) : Nat := 10 * (E.n + 10) * (E.n + 10) + 2
structure POk (E : EV) (V : PV) : Prop where
  e : EOk E
  n1 : 1 ≤ E.n
  n2 : E.n ≤ 5000
  S : E.rS = E.n
  reg : In64 V.reg
theorem POk.cap {E : EV} {V : PV} (h : POk E V) {s : MS} (hk : KOk E s) : Phi E.os E.rts.length E.part s < 200 * E.rS + 200 := by
  have h1 := hk.cap
  have h2 := h.e.h.tn
  have h3 := h.S
  omega
section ops
variable {E : EV} {V : PV} {s : MS} {S : SV} {ms : List Nat} {r : RSt} {tv sv steps : Int}
theorem turn_no (hI : EI E s) (hno : ¬ Over s) : Does Tryz.prog 74 [ptr V.pc 0] (colM E V s steps) (fun v l => v = .tuple #[] ∧ l = colM E V s steps) := by
  refine Does.of tiok Tryz.func74 (by kernel_rfl) rfl Tryz.ntmps74 rfl ?_
  intro W fr
  repeat' (first | refine Wka ?_ | intro _ | apply And.intro)
  refine JO_l (OL_call [2, 12, 12, 12] rfl rfl rfl Over_m rfl) rfl rfl ?_
  rintro _ _ ⟨_, ⟨rfl, rfl⟩, rfl⟩
  rw [over_dec hI, show decide (cntX s.X = E.W) = false from decide_eq_false fun e => hno ((over_iff hI).1 e)]
  repeat' (first | refine Wka ?_ | intro _ | apply And.intro)
  exact At_end rfl rfl .nil rfl (is := [4, 4, 0, 3, 3, 3, 3, 3, 3, 3, 3, 3, 3, 0, 0, 0, 0, 0, 0, 0]) rfl ⟨rfl, rfl⟩
theorem turn_sl : Does Tryz.prog 74 [ptr V.pc 0] (colZ E V S ms r tv sv steps) (fun v l => v = .tuple #[] ∧ l = colZ E V S ms r tv sv steps) := by
  refine Does.of tiok Tryz.func74 (by kernel_rfl) rfl Tryz.ntmps74 rfl ?_
  intro W fr
  repeat' (first | refine Wka ?_ | intro _ | apply And.intro)
  exact At_end rfl rfl .nil rfl (is := [0, 0, 0, 0, 0, 0, 0, 0, 0, 0, 0, 0, 0, 0, 0, 0, 0]) rfl ⟨rfl, rfl⟩
theorem Marks_m : Does Tryz.prog 42 [ptr E.pM 0] [mB E tv sv] (fun v l => v = ptr E.pk 0 ∧ l = [mB E tv sv]) := by
  refine Does.of tiok Tryz.func42 (by kernel_rfl) rfl Tryz.ntmps42 rfl ?_
  intro W fr
  repeat' (first | refine Wka ?_ | intro _ | apply And.intro)
  exact At_ret rfl rfl (.tmp rfl .nil) rfl (is := [0]) rfl ⟨rfl, rfl⟩
set_option maxHeartbeats 8000000 in
theorem turn_yes (hP : POk E V) (hk : KOk E s) (ho : Over s) : Does Tryz.prog 74 [ptr V.pc 0] (colM E V s steps)
    (fun v l => ∃ S r, ZOk E S s.ms r ∧ ZPhi E S s.ms r + 2 < Cn E ∧ r.tv = 0 ∧ v = .tuple #[] ∧ l = colZ E V S s.ms r s.tv s.m steps) := by
  have hI := hk.inv
  have hW1 := hP.e.W1
  have hW2 := hP.e.W2
  have hRM := over_marks hI hW1 ho hP.e.h hP.e.hc hP.e.hr hP.e.rt
  have hN := New_run (p := E.p) (bw := E.bw) (bs := E.bs) (pm := E.pk) (bm := E.bm) V.reg E.W ⟨hW1, by omega⟩ hP.reg hP.e.h hP.e.hc hI.mi (LeadP.of hP.e.h hP.e.hc hP.e.hr) (hRM.right hP.e.h hP.e.hc hP.e.hr) hP.n1 hP.n2
  refine Does.of tiok Tryz.func74 (by kernel_rfl) rfl Tryz.ntmps74 rfl ?_
  intro W fr
  repeat' (first | refine Wka ?_ | intro _ | apply And.intro)
  refine JO_l (OL_call [2, 12, 12, 12] rfl rfl rfl Over_m rfl) rfl rfl ?_
  rintro _ _ ⟨_, ⟨rfl, rfl⟩, rfl⟩
  rw [over_dec hI, show decide (cntX s.X = E.W) = true from decide_eq_true ((over_iff hI).2 ho)]
  repeat' (first | refine Wka ?_ | intro _ | apply And.intro)
  refine J_drawk [exP (fun _ : Value => True) (fun y => [colB E V y steps])] (fun H hl => (exP_in (r := []) (.pointer none) trivial (hl.perm (picks_perm (is := [4]) rfl)).left)) [0, 0, 0, 0, 5, 0, 0, 0, 5, 2, 0, 0, 0, 0, 5, 0, 0, 0, 0, 5, 2, 0, 0, 0, 0, 0, 2] [0, 1, 2, 3, 4, 5, 6, 7, 8, 10, 11, 12, 13, 14, 15, 16, 17, 18, 19, 9, 20, 21, 22, 23, 24, 25, 26] (by kernel_rfl) (by kernel_rfl) ?_
  repeat' (first | refine Wke ?_ | intro _ | apply And.intro)
  refine JX_kept rfl rfl (OK_exP fun y _ => OK_load rfl rfl (.head _) (by rfl)) rfl rfl ?_
  repeat' (first | refine Wke ?_ | intro _ | apply And.intro)
  refine JX_kept rfl rfl (OK_exP fun y _ => OK_load rfl rfl (.head _) (by rfl)) rfl rfl ?_
  repeat' (first | refine Wke ?_ | intro _ | apply And.intro)
  refine JX_kept rfl rfl (OK_exP fun y _ => OK_load rfl rfl (.head _) (by rfl)) rfl rfl ?_
  repeat' (first | refine Wke ?_ | intro _ | apply And.intro)
  refine JX_kept rfl rfl (OK_exP fun y _ => OK_load rfl rfl (.head _) (by rfl)) rfl rfl ?_
  repeat' (first | refine Wke ?_ | intro _ | apply And.intro)
  refine JX_lk rfl rfl (OL_call [0] rfl rfl rfl Marks_m rfl) rfl rfl ?_ ?_
  · rintro _ _ ⟨_, ⟨rfl, rfl⟩, rfl⟩ H hl
    exact exP_in (r := []) (.pointer none) trivial (hl.perm (picks_perm (is := [4]) rfl)).left
  rintro _ _ ⟨_, ⟨rfl, rfl⟩, rfl⟩ _
  repeat' (first | refine Wke ?_ | intro _ | apply And.intro)
  refine JX_lk rfl rfl (OL_call [6, 6, 6, 6, 6] rfl rfl rfl hN rfl) rfl rfl ?_ ?_
  · rintro _ _ ⟨_, ⟨ps, pf, w, nR, bst, bf, pw, bw2, pz, bz, rs, fs, wa, wc, r, _, _, _, _, _, _, rfl⟩, rfl⟩ H hl
    exact exP_in (r := []) (.pointer none) trivial (hl.perm (picks_perm (is := [18]) rfl)).left
  rintro _ _ ⟨_, ⟨ps, pf, w, nR, bst, bf, pw, bw2, pz, bz, rs, fs, wa, wc, r, hF, hr, hph, htv, hmv, rfl, rfl⟩, rfl⟩ _
  repeat' (first | refine Wke ?_ | intro _ | apply And.intro)
  refine JX_l0k rfl rfl (OL_store (i := 18) rfl rfl rfl rfl rfl rfl rfl (by rfl)) rfl ?_ ?_
  · rintro _ _ rfl H hl
    exact exP_in (r := []) (ptr ps 0) trivial (hl.perm (picks_perm (is := [0]) rfl)).left
  rintro _ _ rfl _
  repeat' (first | refine Wke ?_ | intro _ | apply And.intro)
  repeat' (first | refine Wka ?_ | intro _ | apply And.intro)
  exact At_end rfl rfl .nil rfl (is := [0, 18, 14, 0, 0, 0, 0, 0, 0, 0, 0, 0, 0, 0, 0, 0, 0]) rfl ⟨⟨ps, pf, w, nR, bst, bf, pw, bw2, pz, bz, rs, fs, wa, wc⟩, r, ⟨hRM, hI.rd, hF, hr⟩, Nat.add_lt_add_right hph 2, htv, rfl, rfl⟩
theorem Phase_no (hI : EI E s) (hno : ¬ Over s) : Does Tryz.prog 35 [ptr V.pc 0] (colM E V s steps) (fun v l => v = .int .i64 1 ∧ l = colM E V s steps) := by
  refine Does.of tiok Tryz.func35 (by kernel_rfl) rfl Tryz.ntmps35 rfl ?_
  intro W fr
  repeat' (first | refine Wka ?_ | intro _ | apply And.intro)
  refine JO_l (OL_callP (r := []) rfl rfl rfl (turn_no hI hno) (by rw [List.append_nil])) rfl rfl ?_
  rintro _ _ ⟨_, ⟨rfl, rfl⟩, rfl⟩
  rw [List.append_nil]
  repeat' (first | refine Wka ?_ | intro _ | apply And.intro)
  exact At_ret rfl rfl (.tmp rfl .nil) rfl (is := [0, 0, 0, 0, 0, 0, 0, 0, 0, 0, 0, 0, 0, 0, 0, 0, 0, 0, 0, 0]) rfl ⟨rfl, rfl⟩
theorem Phase_tail {Q : SV → List Nat → RSt → Int → Int → Prop} {Tn : List HP} (hT : Does Tryz.prog 74 [ptr V.pc 0] Tn (fun v l => ∃ S ms r tv sv, Q S ms r tv sv ∧ ZOk E S ms r ∧ v = .tuple #[] ∧ l = colZ E V S ms r tv sv steps)) :
    Does Tryz.prog 35 [ptr V.pc 0] Tn (fun v l => ∃ S ms r tv sv, ∃ ph : Int, Q S ms r tv sv ∧ ZOk E S ms r ∧ ((ZOv E S ms r ∧ ph = 3) ∨ (¬ ZOv E S ms r ∧ ph = 2)) ∧ v = .int .i64 ph ∧ l = colZ E V S ms r tv sv steps) := by
  refine Does.of tiok Tryz.func35 (by kernel_rfl) rfl Tryz.ntmps35 rfl ?_
  intro W fr
  repeat' (first | refine Wka ?_ | intro _ | apply And.intro)
  refine JO_l (OL_callP (r := []) rfl rfl rfl hT (by rw [List.append_nil])) rfl rfl ?_
  rintro _ _ ⟨_, ⟨S, ms, r, tv, sv, hQ, hz, rfl, rfl⟩, rfl⟩
  rw [List.append_nil]
  repeat' (first | refine Wka ?_ | intro _ | apply And.intro)
  refine JO_l (OL_call [3, 3, 3, 3, 3, 3, 3, 3, 3, 3, 3, 3, 3, 3] rfl rfl rfl (Over_run hz.sf hz.ok) rfl) rfl rfl ?_
  rintro _ _ ⟨_, ⟨t, ht, rfl, rfl⟩, rfl⟩
  cases t with
  | true =>
    repeat' (first | refine Wka ?_ | intro _ | apply And.intro)
    exact At_ret rfl rfl (.tmp rfl .nil) rfl (is := [14, 14, 14, 0, 0, 0, 0, 0, 0, 0, 0, 0, 0, 0, 0, 0, 0]) rfl ⟨S, ms, r, tv, sv, 3, hQ, hz, .inl ⟨ht.1 rfl, rfl⟩, rfl, rfl⟩
  | false =>
    repeat' (first | refine Wka ?_ | intro _ | apply And.intro)
    exact At_ret rfl rfl (.tmp rfl .nil) rfl (is := [14, 14, 14, 0, 0, 0, 0, 0, 0, 0, 0, 0, 0, 0, 0, 0, 0]) rfl ⟨S, ms, r, tv, sv, 2, hQ, hz, .inr ⟨fun e => absurd (ht.2 e) (by decide), rfl⟩, rfl, rfl⟩
def Turns (E : EV) : CS → SV → List Nat → RSt → Int → Int → Prop
  | .mk s, S, ms, r, tv, sv => Over s ∧ ZPhi E S ms r + 2 < Cn E ∧ r.tv = 0
  | .sl S0 ms0 r0 tv0 sv0, S, ms, r, tv, sv => S = S0 ∧ ms = ms0 ∧ r = r0 ∧ tv = tv0 ∧ sv = sv0
theorem Phase_sl {c : CS} {stn : Nat} (hP : POk E V) (hc : COk E stn c) (hno : ∀ s, c = .mk s → Over s) : Does Tryz.prog 35 [ptr V.pc 0] (colS E V steps c) (fun v l => ∃ S ms r tv sv, ∃ ph : Int, Turns E c S ms r tv sv ∧ ZOk E S ms r ∧ ((ZOv E S ms r ∧ ph = 3) ∨ (¬ ZOv E S ms r ∧ ph = 2)) ∧ v = .int .i64 ph ∧ l = colZ E V S ms r tv sv steps) := by
  cases c with
  | mk s =>
    refine Phase_tail ((turn_yes hP hc.1 (hno s rfl)).mono ?_)
    rintro v l ⟨S, r, hz, h1, h2, rfl, rfl⟩
    exact ⟨S, s.ms, r, _, _, ⟨hno s rfl, h1, h2⟩, hz, rfl, rfl⟩
  | sl S ms r tv sv =>
    refine Phase_tail (turn_sl.mono ?_)
    rintro v l ⟨rfl, rfl⟩
    exact ⟨S, ms, r, tv, sv, ⟨rfl, rfl, rfl, rfl, rfl⟩, hc.1, rfl, rfl⟩
end ops
end Go.Proofs.YtfmkjbmogfhpbaaGreatDoor.Ph
set_option maxRecDepth 8000
namespace Go.Proofs.YtfmkjbmogfhpbaaGreatDoor.Ph
open Go.Sep Mk
def StepC (E : EV) (c c' : CS) (w : Nat) (e : Int) : Prop :=
  (∃ s s', c = .mk s ∧ ¬ Over s ∧ c' = .mk s' ∧ EN E s s' w ∧ s'.m = s.m + 1 ∧ e = 0) ∨
  (∃ S ms r r' tv sv, Turns E c S ms r tv sv ∧ c' = .sl S ms r' tv sv ∧ RNx E.T S.w S.nR E.ws E.os ms r r' w ∧ ((ZOv E S ms r ∧ e = 12) ∨ (¬ ZOv E S ms r ∧ e = 0)))
section ops
variable {E : EV} {V : PV} {c : CS}
theorem KOk.next {E : EV} {s s' : MS} {w : Nat} (h : KOk E s) (hN : EN E s s' w) : KOk E s' := by
  refine ⟨hN.1, ?_⟩
  have h1 := h.cap
  rcases hN.2 with h2 | ⟨h2, _⟩ <;> omega
set_option maxHeartbeats 8000000 in
theorem CStep_spec {stn w : Nat} {draw : Int} (hP : POk E V) (hc : COk E stn c) (hst : stn ≤ 1000000000000) (hw : w < E.W) (hd : In64 draw) : Does Tryz.prog 11 [ptr V.pc 0, .int .i64 w, .int .i64 draw] (colS E V stn c)
    (fun v l => ∃ (c' : CS) (e : Int) (st' : Nat), StepC E c c' w e ∧ COk E st' c' ∧ ((e = 0 ∧ st' = stn + 1) ∨ (e = 12 ∧ st' = stn)) ∧ v = .int .i64 e ∧ l = colS E V st' c') := by
  have hW2 := hP.e.W2
  by_cases hno : ∃ s, c = .mk s ∧ ¬ Over s
  · obtain ⟨s, rfl, hno⟩ := hno
    obtain ⟨hk, hm⟩ := hc
    refine Does.of tiok Tryz.func11 (by kernel_rfl) rfl Tryz.ntmps11 rfl ?_
    intro W fr
    repeat' (first | refine Wka ?_ | intro _ | apply And.intro)
    refine JO_l (OL_callP (r := []) rfl rfl rfl (Phase_no hk.inv hno) (by rw [List.append_nil])) rfl rfl ?_
    rintro _ _ ⟨_, ⟨rfl, rfl⟩, rfl⟩
    rw [List.append_nil]
    repeat' (first | refine Wka ?_ | intro _ | apply And.intro)
    refine JO_l (OL_callP (r := [colB E V (.pointer none) stn, rowR E V]) rfl rfl rfl (MStep_spec hP.e hk.inv hw hd (by omega) (hP.cap hk)) (List.perm_append_comm (l₁ := [_, _]))) rfl rfl ?_
    rintro _ _ ⟨_, ⟨s', e, hS, rfl, rfl⟩, rfl⟩
    obtain ⟨_, rfl, hN, hm'⟩ := hS.resolve_left fun h => hno h.1
    refine JO_hp (l' := colM E V s' stn) (fun H hl => hl.perm (List.perm_append_comm (l₂ := [_, _]))) ?_
    repeat' (first | refine Wka ?_ | intro _ | apply And.intro)
    rw [show (stn : Int) + 1 = ((stn + 1 : Nat) : Int) from rfl]
    exact At_ret rfl rfl (.tmp rfl .nil) rfl (is := [0, 0, 0, 0, 0, 0, 0, 0, 0, 0, 0, 0, 0, 0, 0, 0, 0, 0, 0, 0]) rfl ⟨.mk s', 0, stn + 1, .inl ⟨s, s', rfl, hno, rfl, hN, hm', rfl⟩, ⟨hk.next hN, by omega⟩, .inl ⟨rfl, rfl⟩, rfl, rfl⟩
  · have hov : ∀ s, c = .mk s → Over s := fun s e => Classical.byContradiction fun h => hno ⟨s, e, h⟩
    refine Does.of tiok Tryz.func11 (by kernel_rfl) rfl Tryz.ntmps11 rfl ?_
    intro W fr
    repeat' (first | refine Wka ?_ | intro _ | apply And.intro)
    refine JO_l (OL_callP (r := []) rfl rfl rfl (Phase_sl hP hc hov) (by rw [List.append_nil])) rfl rfl ?_
    rintro _ _ ⟨_, ⟨S, ms, r, tv, sv, ph, hTn, hz, hph, rfl, rfl⟩, rfl⟩
    rw [List.append_nil]
    have hph2 : ph ≠ 1 := by rcases hph with ⟨_, h⟩ | ⟨_, h⟩ <;> omega
    have htv : r.tv ≤ stn := by
      cases c with
      | mk s => have := hTn.2.2; omega
      | sl S0 ms0 r0 tv0 sv0 =>
        obtain ⟨rfl, rfl, rfl, rfl, rfl⟩ := hTn
        exact hc.2
    have ht0 := hz.ok.t0
    repeat' (first | refine Wka ?_ | intro _ | apply And.intro)
    refine JO_l (OL_call [3, 3, 3, 3, 3, 3, 3, 3, 3, 3, 3, 3, 3, 3] rfl rfl rfl (Step_run hz.sf hz.ok (by omega) hw (by constructor <;> omega)) rfl) rfl rfl ?_
    rintro _ _ ⟨_, ⟨r', e, hr', hnx, he, rfl, rfl⟩, rfl⟩
    have hz' : ZOk E S ms r' := ⟨hz.rm, hz.rd, hz.sf, hr'⟩
    refine JO_hp (l' := colZ E V S ms r' tv sv stn) (fun H hl => hl.perm (picks_perm (is := [14, 14, 14]) rfl)) ?_
    rcases he with ⟨ho, rfl⟩ | ⟨ho, rfl⟩
    · have hrr : r' = r := by
        rcases hnx with ⟨_, h⟩ | ⟨h, _⟩
        · exact h
        · exact absurd ho h
      repeat' (first | refine Wka ?_ | intro _ | apply And.intro)
      exact At_ret rfl rfl (.tmp rfl .nil) rfl (is := [0, 0, 0, 0, 0, 0, 0, 0, 0, 0, 0, 0, 0, 0, 0, 0, 0]) rfl ⟨.sl S ms r' tv sv, 12, stn, .inr ⟨S, ms, r, r', tv, sv, hTn, rfl, hnx, .inl ⟨ho, rfl⟩⟩, ⟨hz', by rw [hrr]; exact htv⟩, .inr ⟨rfl, rfl⟩, rfl, rfl⟩
    · have htv' : r'.tv ≤ r.tv + 1 := by
        rcases hnx with ⟨_, rfl⟩ | ⟨_, h | h, _⟩ <;> omega
      repeat' (first | refine Wka ?_ | intro _ | apply And.intro)
      rw [show (stn : Int) + 1 = ((stn + 1 : Nat) : Int) from rfl]
      exact At_ret rfl rfl (.tmp rfl .nil) rfl (is := [0, 0, 0, 0, 0, 0, 0, 0, 0, 0, 0, 0, 0, 0, 0, 0, 0]) rfl ⟨.sl S ms r' tv sv, 0, stn + 1, .inr ⟨S, ms, r, r', tv, sv, hTn, rfl, hnx, .inr ⟨ho, rfl⟩⟩, ⟨hz', by push_cast; omega⟩, .inl ⟨rfl, rfl⟩, rfl, rfl⟩
end ops
end Go.Proofs.YtfmkjbmogfhpbaaGreatDoor.Ph
set_option maxRecDepth 8000
namespace Go.Proofs.YtfmkjbmogfhpbaaGreatDoor.Ph
open Go.Sep Mk
def CMeas (E : EV) (m0 : Nat) : CS → Prop
  | .mk s => Cn E ≤ m0 ∧ (Over s ∨ ∃ M, Meas E.os E.rts.length E.part E.W s 0 M ∧ M + 1 + Cn E ≤ m0)
  | .sl S ms r _ _ => ZOv E S ms r ∨ ZPhi E S ms r < m0
def CIn (E : EV) (m0 q : Nat) : CS → Prop
  | .mk s => (Over s ∧ Cn E ≤ m0 ∧ (q = 0 ∨ Cn E + 1 ≤ m0)) ∨ (¬ Over s ∧ q < E.W ∧ ∃ M, Meas E.os E.rts.length E.part E.W s q M ∧ M + 1 + Cn E + q ≤ m0) ∨ (¬ Over s ∧ q = E.W ∧ ∃ M, Meas E.os E.rts.length E.part E.W s 0 M ∧ M + 1 + Cn E + q ≤ m0)
  | .sl S ms r _ _ => (q = 0 ∧ (ZOv E S ms r ∨ ZPhi E S ms r < m0)) ∨ (1 ≤ m0 ∧ (ZOv E S ms r ∨ ∃ m1, m1 + 1 ≤ m0 ∧ RRnd E.T S.w S.nR E.ws E.os ms r m1 (fun j => j < q)))
theorem CIn.start {E : EV} {m0 : Nat} {c : CS} (h1 : 1 ≤ E.W) (h : CMeas E m0 c) : CIn E m0 0 c := by
  cases c with
  | mk s =>
    obtain ⟨h0, h⟩ := h
    by_cases ho : Over s
    · exact .inl ⟨ho, h0, .inl rfl⟩
    · obtain ⟨M, hM, hb⟩ := h.resolve_left ho
      exact .inr (.inl ⟨ho, h1, M, hM, hb⟩)
  | sl S ms r tv sv => exact .inl ⟨rfl, h⟩
theorem CIn.done {E : EV} {m0 stn : Nat} {c : CS} (h1 : 1 ≤ E.W) (hc : COk E stn c) (h : CIn E m0 E.W c) : 1 ≤ m0 ∧ CMeas E (m0 - 1) c := by
  cases c with
  | mk s =>
    rcases h with ⟨h0, h2, h3⟩ | ⟨_, h0, _⟩ | ⟨h0, _, M, hM, hb⟩
    · have := h3.resolve_left (by omega)
      exact ⟨by omega, by omega, .inl h0⟩
    · omega
    · exact ⟨by omega, by omega, .inr ⟨M, hM, by omega⟩⟩
  | sl S ms r tv sv =>
    rcases h with ⟨h0, _⟩ | ⟨h0, h2⟩
    · omega
    · refine ⟨h0, ?_⟩
      rcases h2 with h2 | ⟨m1, hm1, hr⟩
      · exact .inl h2
      · rcases hr.done hc.1.ok h1 (fun j hj => hj) with h3 | h3
        · exact .inl h3
        · exact .inr (Nat.lt_of_lt_of_le h3 (by omega))
theorem CIn.step {E : EV} {m0 stn q : Nat} {c c' : CS} {e : Int} (hE : EOk E) (hc : COk E stn c) (h : CIn E m0 q c) (hq : q < E.W) (hS : StepC E c c' q e) (he : e = 0) : CIn E m0 (q + 1) c' := by
  have hW := hE.W2
  rcases hS with ⟨s, s', rfl, hno, rfl, hN, hm, _⟩ | ⟨S, ms, r, r', tv, sv, hTn, rfl, hnx, hov⟩
  · rcases h with ⟨h0, _⟩ | ⟨_, _, M, hM, hb⟩ | ⟨_, h0, _⟩
    · exact absurd h0 hno
    · by_cases ho : Over s'
      · exact .inl ⟨ho, by omega, .inr (by omega)⟩
      · have hM' : ∃ M', Meas E.os E.rts.length E.part E.W s' (nxt E.W q) M' ∧ M' + 1 = M := by
          cases M with
          | zero => exact (meas_pos hc.1.inv hN.1 hN.2 hq hW ho hM).elim
          | succ M' => exact ⟨M', meas_step hc.1.inv hN.1 hN.2 hq hW ho hM, rfl⟩
        obtain ⟨M', hM', rfl⟩ := hM'
        unfold nxt at hM'
        by_cases e1 : q + 1 = E.W
        · rw [if_pos e1] at hM'
          exact .inr (.inr ⟨ho, e1, M', hM', by omega⟩)
        · rw [if_neg e1] at hM'
          exact .inr (.inl ⟨ho, by omega, M', hM', by omega⟩)
    · omega
  · have hno : ¬ ZOv E S ms r := by
      rcases hov with ⟨_, h2⟩ | ⟨hno, _⟩
      · omega
      · exact hno
    cases c with
    | mk s =>
      obtain ⟨ho, hph, _⟩ := hTn
      have h0 : Cn E ≤ m0 := by
        rcases h with ⟨_, h, _⟩ | ⟨h, _⟩ | ⟨h, _⟩
        · exact h
        · exact absurd ho h
        · exact absurd ho h
      refine .inr ⟨by omega, .inr ⟨ZPhi E S ms r + 1, by omega, .inr (.inl ?_)⟩⟩
      rcases hnx with ⟨h1, _⟩ | ⟨_, _, h2 | ⟨e1, e2, e3, e4, _⟩⟩
      · exact absurd h1 hno
      · exact Nat.lt_succ_of_lt h2
      · have : RPhi E.T S.w S.nR E.ws E.os ms r' = RPhi E.T S.w S.nR E.ws E.os ms r := by unfold RPhi; rw [e1, e3, e4]
        rw [this]
        exact Nat.lt_succ_self _
    | sl S0 ms0 r0 tv0 sv0 =>
      obtain ⟨rfl, rfl, rfl, rfl, rfl⟩ := hTn
      rcases h with ⟨rfl, h⟩ | ⟨h0, h⟩
      · have h := h.resolve_left hno
        have hR : RRnd E.T S.w S.nR E.ws E.os ms r (ZPhi E S ms r) (fun j => j < 0) := .inr (.inr ⟨Nat.le_refl _, fun j x hj _ => absurd hj (Nat.not_lt_zero _)⟩)
        refine .inr ⟨by omega, .inr ⟨ZPhi E S ms r, h, hR.step hnx fun i hi => ?_⟩⟩
        right
        have hi : i < 0 + 1 := hi
        omega
      · obtain ⟨m1, hm1, hR⟩ := h.resolve_left hno
        refine .inr ⟨h0, .inr ⟨m1, hm1, hR.step hnx fun i hi => ?_⟩⟩
        have hi : i < q + 1 := hi
        show i < q ∨ i = q
        omega
def slV : CS → Value
  | .mk _ => .pointer none
  | .sl S _ _ _ _ => ptr S.ps 0
def colT (E : EV) (V : PV) : CS → List HP
  | .mk s => rowR E V :: stL E s s.tv s.m
  | .sl S ms r tv sv => rowR E V :: mB E tv sv :: sldX E S ms r
theorem colS_eq {E : EV} {V : PV} {c : CS} {steps : Int} : colS E V steps c = colB E V (slV c) steps :: colT E V c := by cases c <;> rfl
set_option maxHeartbeats 16000000 in
theorem CRun_spec {E : EV} {V : PV} {c : CS} {stn m0 : Nat} (hP : POk E V) (hc : COk E stn c) (hm : CMeas E m0 c) (hb : stn + 8 * m0 ≤ 999999999000) : Does Tryz.prog 12 [ptr V.pc 0] (colS E V stn c)
    (fun v l => ∃ S ms r tv sv, ∃ st' : Nat, ∃ k : Int, ZOk E S ms r ∧ ZOv E S ms r ∧ r.tv ≤ st' ∧ st' ≤ 1000000000000 ∧ v = .int .i64 k ∧ l = colZ E V S ms r tv sv st') := by
  have hW1 := hP.e.W1
  have hW2 := hP.e.W2
  refine Does.of tiok Tryz.func12 (by kernel_rfl) rfl Tryz.ntmps12 rfl ?_
  intro W fr
  rw [colS_eq]
  repeat' (first | refine Wka ?_ | intro _ | apply And.intro)
  refine J_scope ?_
  repeat' (first | refine Wka ?_ | intro _ | apply And.intro)
  refine J_label ?_
  repeat' (first | refine Wka ?_ | intro _ | apply And.intro)
  refine J_loop (α := CS × Nat × Nat × Nat) (fun y => COk E y.2.1 y.1 ∧ CMeas E y.2.2.1 y.1 ∧ y.2.1 + 8 * y.2.2.1 ≤ 999999999000 ∧ y.2.2.2 + y.2.2.1 ≤ 1000000000000)
    (fun y => [(0, ptr V.pc 0), (3, .int .i64 stn), (4, .int .i64 y.2.2.2)]) (fun y => colB E V (slV y.1) y.2.1 :: colT E V y.1) (fun y => y.2.2.1) (c, stn, m0, 0) ⟨hc, hm, hb, by dsimp only; omega⟩ Sgt (fun H hl => hl) ?_
  rintro ⟨c1, n1, m1, d1⟩ ⟨h1, h2, h3, h4⟩
  dsimp only at h1 h2 h3 h4 ⊢
  repeat' (first | refine Wkb ?_ | intro _ | apply And.intro)
  refine J_block ?_
  repeat' (first | refine Wkb ?_ | intro _ | apply And.intro)
  refine J_block ?_
  refine J_loop (α := CS × Nat × Nat) (fun y => COk E y.2.1 y.1 ∧ CIn E m1 y.2.2 y.1 ∧ y.2.2 ≤ E.W ∧ y.2.1 ≤ n1 + y.2.2)
    (fun y => [(0, ptr V.pc 0), (3, .int .i64 stn), (4, .int .i64 d1), (16, .int .i64 E.W), (17, .int .i64 y.2.2)]) (fun y => colB E V (slV y.1) y.2.1 :: colT E V y.1) (fun y => E.W - y.2.2) (c1, n1, 0) ⟨h1, CIn.start hW1 h2, Nat.zero_le _, Nat.le_refl _⟩ Sgt (fun H hl => hl) ?_
  rintro ⟨c2, n2, q⟩ ⟨g1, g2, g3, g4⟩
  dsimp only at g1 g2 g3 g4 ⊢
  repeat' (first | refine Wkb ?_ | intro _ | apply And.intro)
  · rename_i hlt
    have hqW : q < E.W := by omega
    refine J_block ?_
    repeat' (first | refine Wka ?_ | intro _ | apply And.intro)
    refine JO_l (OL_callP (r := []) rfl rfl rfl (CStep_spec (c := c2) (stn := n2) hP g1 (by omega) hqW (show In64 (d1 : Int) by constructor <;> omega)) (by rw [List.append_nil, colS_eq])) rfl rfl ?_
    rintro _ _ ⟨_, ⟨c3, e, n3, hS, hc3, hn, rfl, rfl⟩, rfl⟩
    rw [List.append_nil, colS_eq]
    rcases hn with ⟨rfl, rfl⟩ | ⟨rfl, rfl⟩
    · repeat' (first | refine Wka ?_ | intro _ | apply And.intro)
      exact At_round (c3, n2 + 1, q + 1) (by show E.W - (q + 1) < E.W - q; omega) ⟨hc3, CIn.step hP.e g1 g2 hqW hS rfl, by show q + 1 ≤ E.W; omega, by show n2 + 1 ≤ n1 + (q + 1); omega⟩ Sgt (fun H hl => hl)
    · rcases hS with ⟨_, _, _, _, _, _, _, h⟩ | ⟨S, ms, r, r', tv, sv, hTn, rfl, hnx, hov⟩
      · cases h
      · have ho : ZOv E S ms r := by
          rcases hov with ⟨h, _⟩ | ⟨_, h⟩
          · exact h
          · cases h
        have hrr : r' = r := by
          rcases hnx with ⟨_, h⟩ | ⟨h, _⟩
          · exact h
          · exact absurd ho h
        subst hrr
        repeat' (first | refine Wka ?_ | intro _ | apply And.intro)
        refine At_scope_ret ?_
        exact At_ret rfl rfl (.tmp rfl .nil) rfl (is := [0, 0, 0, 0, 0, 0, 0, 0, 0, 0, 0, 0, 0, 0, 0, 0, 0]) rfl ⟨S, ms, r', tv, sv, n3, _, hc3.1, ho, hc3.2, by omega, rfl, rfl⟩
  · obtain rfl : q = E.W := by omega
    obtain ⟨k1, k2⟩ := CIn.done hW1 g1 g2
    repeat' (first | refine Wka ?_ | intro _ | apply And.intro)
    exact At_round (c2, n2, m1 - 1, d1 + 1) (by show m1 - 1 < m1; omega) ⟨g1, k2, by show n2 + 8 * (m1 - 1) ≤ 999999999000; omega, by show d1 + 1 + (m1 - 1) ≤ 1000000000000; omega⟩ Sgt (fun H hl => hl)
end Go.Proofs.YtfmkjbmogfhpbaaGreatDoor.Ph
set_option maxRecDepth 8000
namespace Go.Proofs.YtfmkjbmogfhpbaaGreatDoor.Ph
open Go.Sep Mk
section ops
variable {E : EV} {V : PV} {S : SV} {ms : List Nat} {r : RSt} {tv sv steps : Int}
set_option maxHeartbeats 8000000 in
theorem Result_spec (hP : POk E V) (hz : ZOk E S ms r) (ho : ZOv E S ms r) : Does Tryz.prog 13 [ptr V.pc 0] (colZ E V S ms r tv sv steps)
    (fun v l => ∃ (p' bw' bs' : Nat) (st' : List Bool) (out : List Int) (a' : Option Addr) (c' : Nat), HT E.n (szL (lvs ms E.os)) (NWI E.T E.ws ms E.os) st' ∧ out.length = E.rts.length ∧ (∀ (q : Nat) (z z' : Int), E.rts[q]? = some z → out[q]? = some z' → fwdW ms E.os z z') ∧
      v = .tuple #[ptr p' 0, .slice a' E.rts.length c', .int .i64 0] ∧ l = heapL p' bw' bs' E.n (NWI E.T E.ws ms E.os) (szL (lvs ms E.os)) st' ++ (row 3 1 a' E.rts.length c' (intsV out) :: colZ E V S ms r tv sv steps)) := by
  have hR2 := hP.e.R2
  refine Does.of tiok Tryz.func13 (by kernel_rfl) rfl Tryz.ntmps13 rfl ?_
  intro W fr
  refine J_row (i := 1) rfl fun hr => ?_
  have hRo : Reads (rowR E V) 1 E.rts.length V.ra V.rk (intsV E.rts) := Reads.row hr.1 hr.2.1
  have hPh := Phase_tail (Q := fun S1 ms1 r1 tv1 sv1 => S = S1 ∧ ms = ms1 ∧ r = r1 ∧ tv = tv1 ∧ sv = sv1) ((turn_sl (E := E) (V := V) (S := S) (ms := ms) (r := r) (tv := tv) (sv := sv) (steps := steps)).mono (fun v l => by
    rintro ⟨rfl, rfl⟩
    exact ⟨S, ms, r, tv, sv, ⟨rfl, rfl, rfl, rfl, rfl⟩, hz, rfl, rfl⟩))
  repeat' (first | refine Wka ?_ | intro _ | apply And.intro)
  refine JO_l (OL_callP (r := []) rfl rfl rfl hPh (by rw [List.append_nil])) rfl rfl ?_
  rintro _ _ ⟨_, ⟨_, _, _, _, _, ph, ⟨rfl, rfl, rfl, rfl, rfl⟩, _, hph, rfl, rfl⟩, rfl⟩
  rw [List.append_nil]
  obtain rfl : ph = 3 := by
    rcases hph with ⟨_, h⟩ | ⟨h, _⟩
    · exact h
    · exact absurd ho h
  repeat' (first | refine Wka ?_ | intro _ | apply And.intro)
  refine JO_l (OL_call [3, 3, 3, 3, 3, 3, 3, 3, 3, 3, 3, 3, 3, 3] rfl rfl rfl (Heap_run hz.sf hP.n1 hz.ok ho) rfl) rfl rfl ?_
  rintro _ _ ⟨_, ⟨p', bw', bs', st', hHT, rfl, rfl⟩, rfl⟩
  repeat' (first | refine Wka ?_ | intro _ | apply And.intro)
  refine J_draw [0, 0, 0, 1, 0, 0, 0, 1, 2, 0, 0, 0, 0, 0] (List.range 14) (by kernel_rfl) (by kernel_rfl) ?_
  repeat' (first | refine Wkd ?_ | intro _ | apply And.intro)
  refine JX_l rfl rfl (OL_call [3, 3, 3, 3, 3, 3, 3, 3, 3, 3, 3, 3, 3, 3, 4] rfl rfl rfl (Roots_spec hz.sf.h hz.sf.hc hz.sf.hM hz.sf.hF hz.sf.hR hRo (by omega) ?_) rfl) rfl rfl ?_
  · intro z hz
    have htn := hP.e.h.tn
    have hnb := hP.e.h.nb
    rcases hP.e.rt z hz with rfl | ⟨j, o, hj, rfl, _⟩
    · constructor <;> decide
    · have := hP.e.hc.o_lt hj
      constructor <;> omega
  rintro _ _ ⟨_, hrs, rfl⟩
  obtain ⟨out, ao, co, hol, hfw, _, rfl, rfl⟩ := hrs.resolve_right fun h => h.1 (RMk.roots (n := E.n) (T := E.T) (ws := E.ws) (st := E.st) hP.e.rt hz.rm)
  clear hrs
  repeat' (first | refine Wkd ?_ | intro _ | apply And.intro)
  repeat' (first | refine Wka ?_ | intro _ | apply And.intro)
  exact At_ret rfl rfl (.tmp rfl (.tmp rfl (.tmp rfl .nil))) rfl (is := [16, 16, 16, 0, 15, 14, 14, 0, 0, 0, 0, 0, 0, 0, 0, 0, 0, 0, 0, 0, 0]) rfl ⟨p', bw', bs', st', out, ao, co, hHT, hol, hfw, rfl, rfl⟩
set_option maxHeartbeats 16000000 in
theorem CNew_spec {p bw bs n T : Nat} {ws : List Int} {st : List Bool} {os : List RO} {la : Option Addr} {lc : Nat} {rts : List Int} {Rl : HP} {W rm K part : Nat} {reg : Int} (h : HT n T ws st) (hc : Ch ws 0 os T) (hr : RefsOk ws st) (h1 : 1 ≤ n) (h2 : n ≤ 5000)
    (hz : ∀ z ∈ rts, z = 0 ∨ ∃ (j : Nat) (o : RO), os[j]? = some o ∧ z = (o.i : Int) + 1 ∧ o.k ≠ 15) (hl : rts.length ≤ 14) (hRl : Reads Rl 1 rts.length la lc (intsV rts)) (hW : 1 ≤ W ∧ W ≤ 7) (hrm : 2 ≤ rm ∧ rm ≤ 1024) (hK : 1 ≤ K ∧ K ≤ 4095) (hp : 1 ≤ part ∧ part ≤ 64) (hreg : In64 reg) :
    Does Tryz.prog 10 [ptr p 0, .slice la rts.length lc, .agg #[.int .i64 W, .int .i64 rm, .int .i64 K, .int .i64 part, .int .i64 reg]] (heapL p bw bs n ws T st ++ [Rl])
    (fun v l => ∃ (E : EV) (V : PV), POk E V ∧ KOk E (ms0 E.n E.W E.rm E.rS) ∧ p = E.p ∧ bw = E.bw ∧ bs = E.bs ∧ n = E.n ∧ T = E.T ∧ ws = E.ws ∧ st = E.st ∧ os = E.os ∧ rts = E.rts ∧ W = E.W ∧ V.reg = reg ∧
      v = .tuple #[ptr V.pc 0, .int .i64 0] ∧ l = Rl :: colM E V (ms0 E.n E.W E.rm E.rS) 0) := by
  refine Does.of tiok Tryz.func10 (by kernel_rfl) rfl Tryz.ntmps10 rfl ?_
  intro W' fr
  have hpo : Rt.partOf (part : Int) = (part : Int) := by unfold Rt.partOf; split <;> split at * <;> omega
  repeat' (first | refine Wka ?_ | intro _ | apply And.intro)
  refine JO_l (OL_call [] rfl rfl rfl (Rt.rootsNew (part : Int)) rfl) rfl rfl ?_
  rintro _ _ ⟨_, ⟨pr, rc, rw_, rfl, rfl⟩, rfl⟩
  rw [hpo]
  repeat' (first | refine Wka ?_ | intro _ | apply And.intro)
  rename_i bx
  refine J_loop (α := Nat × Option Addr × Nat) (fun y => y.1 ≤ rts.length)
    (fun y => [(0, ptr p 0), (5, ptr bx 0), (8, ptr pr 0), (20, .slice la rts.length lc), (21, .int .i64 rts.length), (22, .int .i64 y.1)])
    (fun y => Rt.rootsZ pr rc rw_ 0 y.2.1 y.2.2 (rts.take y.1) part ++ (blk bx [.int .i64 W, .int .i64 rm, .int .i64 K, .int .i64 part, .int .i64 reg] 42 :: (heapL p bw bs n ws T st ++ [Rl])))
    (fun y => rts.length - y.1) (0, none, 0) (Nat.zero_le _) Sgt (fun H hl => hl) ?_
  rintro ⟨q, ar, cr⟩ hq
  dsimp only at hq ⊢
  repeat' (first | refine Wkb ?_ | intro _ | apply And.intro)
  · rename_i hlt
    have hlt : q < rts.length := by omega
    refine J_block ?_
    have hy : rts[q]? = some (rts[q]'hlt) := List.getElem?_eq_getElem _
    generalize rts[q]'hlt = y at hy
    have hy0 : 0 ≤ y := by
      rcases hz y (List.mem_of_getElem? hy) with h0 | ⟨_, _, _, h0, _⟩ <;> omega
    have htk : rts.take q ++ [y] = rts.take (q + 1) := by rw [List.take_add_one, hy]; rfl
    refine J_fact _ (fun w hs => hRl.some (by omega) hs (by simp)) ?_
    rintro ⟨b2, o2, rfl⟩
    repeat' (first | refine Wka ?_ | intro _ | apply And.intro)
    refine JO_val (OV_idx (off := o2 + q) rfl rfl rfl rfl (by omega) (by omega) (by omega)) rfl rfl ?_
    refine JO_q (OQ_read (i := q) (v := .int .i64 y) hRl (by simp) rfl rfl (by omega) (by simp [intsV, hy])) rfl rfl ?_
    repeat' (first | refine Wka ?_ | intro _ | apply And.intro)
    refine JO_l (OL_call [0, 0, 0] rfl rfl rfl (Rt.Push_ok y hy0 (by rw [List.length_take]; omega)) rfl) rfl rfl ?_
    rintro _ _ ⟨_, ⟨ar', cr', rfl, rfl⟩, rfl⟩
    rw [htk]
    repeat' (first | refine Wka ?_ | intro _ | apply And.intro)
    exact At_round (q + 1, ar', cr') (by show rts.length - (q + 1) < rts.length - q; omega) (by show q + 1 ≤ rts.length; omega) Sgt (fun H hl => hl)
  · obtain rfl : q = rts.length := by omega
    rw [List.take_length]
    repeat' (first | refine Wka ?_ | intro _ | apply And.intro)
    refine JO_l (OL_call [4, 4, 4, 0, 0, 0] rfl rfl rfl (MNew_run (part := part) h hc hr h1 (by omega) hz (by omega) hW hrm hK hp) rfl) rfl rfl ?_
    rintro _ _ ⟨_, ⟨E, hE, rfl, rfl, rfl, rfl, rfl, rfl, rfl, rfl, rfl, rfl, rfl, rfl, rfl, rfl, rfl, rfl, rfl, rfl, hS, rfl, rfl⟩, rfl⟩
    repeat' (first | refine Wka ?_ | intro _ | apply And.intro)
    refine J_drawk [blk bx [.int .i64 E.W, .int .i64 E.rm, .int .i64 E.K, .int .i64 E.part, .int .i64 reg] 42] (fun H hl => (hl.perm (picks_perm (is := [18]) rfl)).left) [5, 0, 0, 0, 2, 0, 2, 0, 0] (List.range 9) (by kernel_rfl) (by kernel_rfl) ?_
    repeat' (first | refine Wke ?_ | intro _ | apply And.intro)
    refine JX_lk rfl rfl (OL_call [6, 6, 6] rfl rfl rfl (Rt.rootsAll (by omega)) rfl) rfl rfl ?_ ?_
    · rintro _ _ ⟨_, ⟨a', cap', _, rfl, rfl⟩, rfl⟩ H hl
      exact (hl.perm (picks_perm (is := [19]) rfl)).left
    rintro _ _ ⟨_, ⟨a', cap', hn', rfl, rfl⟩, rfl⟩ _
    repeat' (first | refine Wke ?_ | intro _ | apply And.intro)
    refine JX_lk rfl rfl (OL_box rfl rfl) rfl rfl ?_ ?_
    · rintro _ _ ⟨_, rfl, rfl⟩ H hl
      exact (hl.perm (picks_perm (is := [20]) rfl)).left
    rintro _ _ ⟨pc, rfl, rfl⟩ _
    repeat' (first | refine Wke ?_ | intro _ | apply And.intro)
    repeat' (first | refine Wka ?_ | intro _ | apply And.intro)
    have hKO : KOk E (ms0 E.n E.W E.rm E.rS) := ⟨MInv.new h.nb hW.1 hrm.2 (by omega), phi_new hc hl hW.2⟩
    exact At_ret rfl rfl (.tmp rfl (.tmp rfl .nil)) rfl (is := [21, 0, 0, 3, 3, 3, 3, 3, 3, 0, 0, 0, 0, 0, 0, 0, 0, 0, 0, 0, 0]) rfl ⟨E, ⟨pc, reg, a', cap'⟩, ⟨hE, h1, h2, hS, hreg⟩, hKO, rfl, rfl, rfl, rfl, rfl, rfl, rfl, rfl, rfl, rfl, rfl, rfl, rfl⟩
end ops
end Go.Proofs.YtfmkjbmogfhpbaaGreatDoor.Ph
namespace Go.Sep
theorem Reads.first {R : HP} {sz m cap : Nat} {a : Option Addr} {cs : List Value} (h : Reads R sz m a cap cs) {n : Nat} (hn : n ≤ m) : Reads R sz n a cap (cs.take (n * sz)) := by
  have hl := h.len
  have hk : n * sz ≤ m * sz := Nat.mul_le_mul_right sz hn
  refine ⟨by rw [List.length_take]; omega, fun e => ⟨by have := (h.empty e).1; omega, (h.empty e).2⟩, fun W l w hs hm i hi => ?_⟩
  obtain ⟨b, o, e, hc⟩ := h.cell W l w hs hm i (by omega)
  exact ⟨b, o, e, by rw [hc, List.getElem?_take_of_lt hi]⟩
end Go.Sep
namespace Go.Proofs.YtfmkjbmogfhpbaaGreatDoor
open Go.Sep
def cutG (g : GG) (k : Nat) : GG := ⟨g.ns.take k, g.na, g.nc, g.rs, g.ra, g.rc⟩
theorem GOk.cut {R : HP} {g : GG} (h : GOk R g) {k : Nat} (hk : k ≤ g.ns.length) : GOk R (cutG g k) := by
  have e : (g.ns.take k).length = k := by rw [List.length_take]; omega
  refine ⟨fun y hy => h.nd y (List.mem_of_mem_take hy), ?_, ?_, h.rr, h.rb, h.rl⟩
  · have h1 := h.rn.first (n := k) hk
    rw [flat_takeN (f := cellsN) (fun _ => rfl)] at h1
    show Reads R 3 (g.ns.take k).length g.na g.nc ((g.ns.take k).flatMap cellsN)
    rw [e]
    exact h1
  · show (g.ns.take k).length ≤ _
    have := h.nl
    omega
theorem Ch.cov {ws : List Int} : ∀ {os : List RO} {i T x : Nat}, Ch ws i os T → i ≤ x → x < T → ∃ (j : Nat) (o : RO) (t : Nat), os[j]? = some o ∧ t < 1 + o.ws.length ∧ x = o.i + t
  | [], i, T, x, h, h1, h2 => by have : i = T := h; omega
  | o :: r, i, T, x, h, h1, h2 => by
    have hi := h.1
    rcases Nat.lt_or_ge x (i + 1 + o.ws.length) with e | e
    · exact ⟨0, o, x - i, rfl, by omega, by omega⟩
    · obtain ⟨j, o', t, k1, k2, k3⟩ := Ch.cov h.2.2.2.2 e h2
      exact ⟨j + 1, o', t, k1, k2, k3⟩
section all
variable {n T : Nat} {ws : List Int} {st : List Bool} {os : List RO} {ms : List Nat}
theorem lvs_all (ha : ∀ o ∈ os, lvB ms o = true) : lvs ms os = os := List.filter_eq_self.2 ha
theorem szL_all (hc : Ch ws 0 os T) (ha : ∀ o ∈ os, lvB ms o = true) : szL (lvs ms os) = T := by
  rw [lvs_all ha]
  have := hc.sz
  omega
theorem goI_whole (hc : Ch ws 0 os T) (ha : ∀ o ∈ os, lvB ms o = true) {j : Nat} {o : RO} (ho : os[j]? = some o) : goI ms os j = o.i := by
  unfold goI
  have h1 := (hc.at ho).1
  have h2 := szL_all h1 fun o ho => ha o (List.mem_of_mem_take ho)
  exact h2
theorem NWI_whole (h : HT n T ws st) (hc : Ch ws 0 os T) (hr : RefsOk ws st) (ha : ∀ o ∈ os, lvB ms o = true) : NWI T ws ms os = ws := by
  apply List.ext_getElem?
  intro x
  rcases Nat.lt_or_ge x T with e | e
  · obtain ⟨j, o, t, ho, ht, rfl⟩ := hc.cov (Nat.zero_le _) e
    have hl := ha o (List.mem_of_getElem? ho)
    have hN := NWI_obj (T := T) (ws := ws) ho hl ht
    rw [goI_whole hc ha ho] at hN
    rw [hN]
    have hat := (hc.at ho).2
    unfold nwO
    cases t with
    | zero => exact hat.2.2.1.symm
    | succ t =>
      rw [List.getElem?_cons_succ]
      obtain ⟨y, hy⟩ : ∃ y, o.ws[t]? = some y := ⟨o.ws[t]'(by omega), List.getElem?_eq_getElem _⟩
      rw [fwL_at hy, show o.i + (t + 1) = o.i + 1 + t by omega, hat.2.2.2.1 t (by omega), hy]
      congr 1
      split
      · rename_i hp
        rcases leads_obj h hc hr ho hp hy with rfl | ⟨j', o', ho', rfl, _⟩
        · exact fwI_zero
        · rw [fwI_obj hc ho', goI_whole hc ha ho']
      · rfl
  · exact NWI_rest hc e
end all
open Go.Sep
section same
variable {os : List RO} {ms ms' : List Nat}
theorem RMk.same {rts : List Int} (h : RMk os rts ms) (h' : RMk os rts ms') : ∀ o ∈ os, lvB ms o = lvB ms' o := by
  intro o ho
  obtain ⟨j, hj⟩ := List.getElem?_of_mem ho
  exact Bool.eq_iff_iff.2 ((h j o hj).trans (h' j o hj).symm)
end same
end Go.Proofs.YtfmkjbmogfhpbaaGreatDoor
set_option maxRecDepth 8000
namespace Go.Proofs.YtfmkjbmogfhpbaaGreatDoor
open Go.Sep
theorem Numbers15_spec {x0 x1 x2 x3 x4 : Int} (h0 : 0 ≤ x0 ∧ x0 ≤ 255) (h1 : 0 ≤ x1 ∧ x1 ≤ 255) (h2 : 0 ≤ x2 ∧ x2 ≤ 255) (h3 : 0 ≤ x3 ∧ x3 ≤ 255) (h4 : 0 ≤ x4 ∧ x4 ≤ 255) :
    Does Tryz.prog 9 [.agg #[.int .u8 x0, .int .u8 x1, .int .u8 x2, .int .u8 x3, .int .u8 x4]] [] (fun v l => v = .agg #[.int .i64 (1 + x0 % 7), .int .i64 (2 + x1 % 6), .int .i64 (1 + x2 % 5), .int .i64 (1 + x3 % 5), .int .i64 (2 + x4 % 20)] ∧ l = []) := by
  refine Does.of tiok Tryz.func9 (by kernel_rfl) rfl Tryz.ntmps9 rfl ?_
  intro W fr
  repeat' (first | refine Wka ?_ | intro _ | apply And.intro)
  refine JO_val (OV_idxA (off := 0) rfl rfl rfl rfl (by omega) (by decide) (by rfl)) rfl rfl ?_
  repeat' (first | refine Wka ?_ | intro _ | apply And.intro)
  refine JO_val (OV_idxA (off := 1) rfl rfl rfl rfl (by omega) (by decide) (by rfl)) rfl rfl ?_
  repeat' (first | refine Wka ?_ | intro _ | apply And.intro)
  refine JO_val (OV_idxA (off := 2) rfl rfl rfl rfl (by omega) (by decide) (by rfl)) rfl rfl ?_
  repeat' (first | refine Wka ?_ | intro _ | apply And.intro)
  refine JO_val (OV_idxA (off := 3) rfl rfl rfl rfl (by omega) (by decide) (by rfl)) rfl rfl ?_
  repeat' (first | refine Wka ?_ | intro _ | apply And.intro)
  refine JO_val (OV_idxA (off := 4) rfl rfl rfl rfl (by omega) (by decide) (by rfl)) rfl rfl ?_
  repeat' (first | refine Wka ?_ | intro _ | apply And.intro)
  exact At_ret rfl rfl (.agg rfl rfl rfl Mmt (by rfl) .nil) rfl (is := []) rfl ⟨rfl, rfl⟩
end Go.Proofs.YtfmkjbmogfhpbaaGreatDoor
namespace Go.Proofs.YtfmkjbmogfhpbaaGreatDoor.Ph
open Go.Sep Mk
def PIn (E : EV) (stn : Nat) (c : CS) : Prop := COk E stn c ∧ match c with
  | .mk _ => True
  | .sl S ms r _ _ => ZOv E S ms r ∨ ZPhi E S ms r < Cn E
theorem zn_phi {T w nR : Nat} {ws : List Int} {os : List RO} {ms : List Nat} {s s' : RSt} {j m : Nat} (hn : RNx T w nR ws os ms s s' j) (h : ROv T nR os ms s ∨ RPhi T w nR ws os ms s < m) : ROv T nR os ms s' ∨ RPhi T w nR ws os ms s' < m := by
  rcases hn with ⟨ho, rfl⟩ | ⟨hno, _, hlt | ⟨e1, e2, e3, e4, hk⟩⟩
  · exact .inl ho
  · have := h.resolve_left hno
    exact .inr (by omega)
  · have := h.resolve_left hno
    refine .inr ?_
    show PhiI T w nR ws os ms s'.xs s'.C s'.D < m
    rw [e1, e3, e4]
    exact this
theorem PIn.new {E : EV} (h : KOk E (ms0 E.n E.W E.rm E.rS)) : PIn E 0 (.mk (ms0 E.n E.W E.rm E.rS)) := ⟨⟨h, Nat.le_refl _⟩, trivial⟩
theorem PIn.step {E : EV} {stn st' w : Nat} {c c' : CS} {e : Int} (h : PIn E stn c) (hS : StepC E c c' w e) (hc' : COk E st' c') : PIn E st' c' := by
  refine ⟨hc', ?_⟩
  rcases hS with ⟨s, s', rfl, _, rfl, _⟩ | ⟨S, ms, r, r', tv, sv, hTn, rfl, hnx, _⟩
  · trivial
  · refine zn_phi hnx ?_
    cases c with
    | mk s => exact .inr (Nat.lt_of_le_of_lt (Nat.le_add_right _ 2) hTn.2.1)
    | sl S0 ms0 r0 tv0 sv0 =>
      obtain ⟨rfl, rfl, rfl, rfl, rfl⟩ := hTn
      exact h.2
def M0 (E : EV) : Nat := 2000 * (200 * E.T + 112) + (2000 + Cn E)
theorem m0_a {p q c : Nat} (h : p ≤ q) : p * 2000 + 1999 + 1 + c ≤ 2000 * q + (2000 + c) := by omega
theorem m0_b {T n c : Nat} (h : T ≤ n) (hn : n ≤ 400) (hc : c ≤ 10 * 410 * 410 + 2) : 8 * (2000 * (200 * T + 112) + (2000 + c)) ≤ 8000000000 := by omega
theorem m0_c {n : Nat} (hn : n ≤ 400) : 10 * (n + 10) * (n + 10) + 2 ≤ 10 * 410 * 410 + 2 := Nat.add_le_add_right (Nat.mul_le_mul (Nat.mul_le_mul_left 10 (by omega)) (by omega)) 2
theorem PIn.meas {E : EV} {stn : Nat} {c : CS} (hE : EOk E) (h : PIn E stn c) : CMeas E (M0 E) c := by
  have hW1 := hE.W1
  have hW2 := hE.W2
  cases c with
  | mk s =>
    have hM : M0 E = 2000 * (200 * E.T + 112) + (2000 + Cn E) := rfl
    refine ⟨hM ▸ Nat.le_trans (Nat.le_add_left _ _) (Nat.le_add_left _ _), ?_⟩
    by_cases ho : Over s
    · exact .inl ho
    · have hc := h.1.1.cap
      refine .inr ⟨_, meas_of h.1.1.inv hW1 hW2 ho, ?_⟩
      exact m0_a hc
  | sl S ms r tv sv =>
    refine h.2.imp id fun h2 => Nat.lt_of_lt_of_le h2 ?_
    exact Nat.le_trans (Nat.le_add_left _ _) (Nat.le_add_left _ _)
theorem M0_le {E : EV} (h : E.T ≤ E.n) (hn : E.n ≤ 400) : 8 * M0 E ≤ 8000000000 :=
  m0_b h hn (m0_c hn)
end Go.Proofs.YtfmkjbmogfhpbaaGreatDoor.Ph
namespace Go.Proofs.YtfmkjbmogfhpbaaGreatDoor
open Go.Sep Go.Shelf
theorem Does.ofCalls {P : Program} {f : FuncId} {args : List Value} {v : Value} (he : Enters P f) (h : ∀ w, Calls P f args.toArray w fun e w' => e = .returned v ∧ w' = w) : Does P f args [] (fun u l => u = v ∧ l = []) :=
  ⟨he, fun W fr w hs => (h w).mono fun e w' ⟨h1, h2⟩ => ⟨v, [], h1, ⟨rfl, rfl⟩, h2 ▸ hs⟩⟩
theorem OV_gtrU {C : Ctx} {g : Regs} {t t' : TypeId} {x y : Operand} {m n : Int} (hx : ev g x = some (.int .u64 m)) (hy : ev g y = some (.int .u64 n)) : OpV C g (.binOp .gtr t x y t') (.bool (decide (n < m))) := by
  refine ⟨(by intro c h; cases h), fun d ty pos af gd a w hf => ?_⟩
  have hb : (binOp .gtr t (.int .u64 m) (.int .u64 n)).run C.P w = .ok (.bool (decide (n < m))) w := by simp [binOp, Op.intCmp, Pure.pure, Sem.run]
  simp only [execOp, hf.ev hx, hf.ev hy]
  rw [Sem.run_bind, run_guarded hb]
  rfl
theorem rep_put {k n m : Nat} (h : n + m ≤ k) : putL (intsV (List.replicate n (-1) ++ List.replicate (k - n) 0)) n (intsV (List.replicate m (-1))) = some (intsV (List.replicate (n + m) (-1) ++ List.replicate (k - (n + m)) 0)) := by
  rw [putL_split (by simp; omega)]
  congr 1
  rw [← List.map_take, ← List.map_drop, ← List.map_append, ← List.map_append]
  congr 1
  rw [List.take_left' (by simp), List.length_map, List.length_replicate, List.drop_append, List.drop_of_length_le (by simp), List.nil_append, List.drop_replicate, List.length_replicate, ← List.replicate_append_replicate]
  congr 2
  omega
theorem rep_take {k n m : Nat} (h : m ≤ n) : (intsV (List.replicate n (-1) ++ List.replicate (k - n) 0)).take m = intsV (List.replicate m (-1)) := by
  rw [← List.map_take, List.take_append_of_le_length (by simp; omega), List.take_replicate, Nat.min_eq_left h]
def ro : Ren := ⟨fun n => if n = 264 then 134 else 0, fun t => if t = 46 then 224 else 221, fun g => g⟩
abbrev iu64 : TyI := ⟨TD.int .u64, 1, 8, [.int .u64 0]⟩
theorem look_view {t : Nat} {i : TyI} (h : Go.Sep.look ti t = some i) : tyView Tryz.prog t = some i := tiok.look h
theorem u64zero {t : Nat} (w : World) (hi : tyView Tryz.prog t = some iu64) (h2 : (Tryz.prog.info? t).bind (·.zero) = some (.int .u64 0)) : (zeroValue t).run Tryz.prog w = .ok (.int .u64 0) w := by
  obtain ⟨f, d, zv, hf, hd, hz, _⟩ := tyView_parts hi
  rw [hf] at h2
  have h3 : f.zero = some (.int .u64 0) := h2
  simp [zeroValue, Sem.run_bind, run_typeInfo w hf, Result.andThen, h3, Pure.pure, Sem.run]
set_option maxRecDepth 100000 in
theorem lays264 : Lays.n264 Tryz.prog ro where
  mixed := by kernel_rfl
  f264 := by kernel_rfl
  t46 := by kernel_rfl
  a46 := fun w => run_isAgg (t := 224) w (i := iu64) (look_view (by rfl))
  z46 := fun w => Go.Sep.run_sizeOf (t := 224) w (i := iu64) (look_view (by rfl))
  v46 := fun w => u64zero (t := 224) w (look_view (by rfl)) (by kernel_rfl)
  t53 := by kernel_rfl
  a53 := fun w => run_isAgg (t := 221) w (i := iu64) (look_view (by rfl))
  z53 := fun w => Go.Sep.run_sizeOf (t := 221) w (i := iu64) (look_view (by rfl))
  v53 := fun w => u64zero (t := 221) w (look_view (by rfl)) (by kernel_rfl)
theorem Mul64_spec (k : Nat) (hk : k ≤ 64) : Does Tryz.prog 134 [.int .u64 1, .int .u64 k] [] (fun v l => v = .tuple #[.int .u64 0, .int .u64 k] ∧ l = []) := by
  refine Does.ofCalls (enters_of (fn := Tryz.f134) Tryz.func134 (by kernel_rfl) rfl) fun w => ?_
  have h := Any.bits_Mul64 lays264 1 k (by decide) (by omega) w
  refine h.mono fun e w' ⟨h1, h2⟩ => ⟨?_, h2⟩
  rw [h1, Nat.one_mul, Nat.div_eq_of_lt (by omega), Nat.mod_eq_of_lt (by omega)]
  rfl
theorem Mul_spec (k : Nat) (hk : k ≤ 64) : Does Tryz.prog 117 [.int .u64 1, .int .u64 k] [] (fun v l => v = .tuple #[.int .u64 0, .int .u64 k] ∧ l = []) := by
  refine Does.of tiok Tryz.func117 (by kernel_rfl) rfl Tryz.ntmps117 rfl ?_
  intro W fr
  repeat' (first | refine Wka ?_ | intro _ | apply And.intro)
  refine JO_l (OL_call [] rfl rfl rfl (Mul64_spec k hk) rfl) rfl rfl ?_; rintro _ _ ⟨_, ⟨rfl, rfl⟩, rfl⟩
  repeat' (first | refine Wka ?_ | intro _ | apply And.intro)
  exact At_ret rfl rfl (.tmp rfl (.tmp rfl .nil)) rfl (is := []) rfl ⟨rfl, rfl⟩
set_option maxHeartbeats 4000000 in
theorem Repeat_spec (bx k : Nat) (h1 : 1 ≤ k) (h2 : k ≤ 64) : Does Tryz.prog 87 [.slice (some ⟨bx, 0, none⟩) 1 1, .int .i64 k] [blk bx [.int .i64 (-1)] 3]
    (fun v l => ∃ b, v = .slice (some ⟨b, 0, none⟩) k k ∧ l = [blk b (intsV (List.replicate k (-1))) 3]) := by
  refine Does.of tiok Tryz.func87 (by kernel_rfl) rfl Tryz.ntmps87 rfl ?_
  intro W fr
  repeat' (first | refine Wka ?_ | intro _ | apply And.intro)
  rw [show IntKind.u64.wrap (k : Int) = k from Mul64.wrapN k (by omega), show IntKind.u64.wrap ((1 : Nat) : Int) = 1 from Mul64.wrapN 1 (by omega)]
  refine JO_l (OL_call [] rfl rfl rfl (Mul_spec k h2) rfl) rfl rfl ?_; rintro _ _ ⟨_, ⟨rfl, rfl⟩, rfl⟩
  repeat' (first | refine Wka ?_ | intro _ | apply And.intro)
  refine JO_val (OV_gtrU rfl rfl) rfl rfl ?_
  repeat' (first | refine Wka ?_ | intro _ | apply And.intro)
  refine JO_val (OV_gtrU rfl rfl) rfl rfl ?_
  repeat' (first | refine Wka ?_ | intro _ | apply And.intro)
  refine JO_l (OL_makeN rfl rfl rfl rfl (by omega) (by omega)) rfl rfl ?_
  rintro _ _ ⟨b, rfl, rfl⟩
  repeat' (first | refine Wka ?_ | intro _ | apply And.intro)
  rw [show List.replicate k (Value.int .i64 0) = intsV (List.replicate 0 (-1) ++ List.replicate (k - 0) 0) by simp [intsV]]
  refine JO_l (OL_copy (news := [.int .i64 (-1)]) rfl rfl rfl rfl P0 rfl (fun w hs => ?_) rfl (rep_put (m := 1) (by omega))) rfl rfl ?_
  · rw [Nat.min_eq_left h1]
    exact ((Reads.blk (T := 3) (sz := 1) (m := 1) (cap := 1) (b := bx) (cs := [.int .i64 (-1)]) rfl).src (.tail _ (.head _))).2.2 w hs
  rintro _ _ ⟨rfl, rfl⟩
  rw [show min ((1 : Nat) : Int) (k : Int) = ((1 : Nat) : Int) by omega]
  repeat' (first | refine Wka ?_ | intro _ | apply And.intro)
  refine J_loop (α := Nat) (fun n => 1 ≤ n ∧ n ≤ k) (fun n => [(4, .slice none 0 0), (7, .slice (some ⟨b, 0, none⟩) k k), (8, .int .i64 n)])
    (fun n => [blk b (intsV (List.replicate n (-1) ++ List.replicate (k - n) 0)) 3]) (fun n => k - n) 1 ⟨Nat.le_refl _, h1⟩ Sgt (fun H hl => hl.pick (is := [0]) rfl) ?_
  rintro n ⟨hn1, hn2⟩
  repeat' (first | refine Wka ?_ | intro _ | apply And.intro)
  · rename_i hlt
    have hm1 : min n (k - n) ≤ n := Nat.min_le_left _ _
    have hm2 : min n (k - n) ≤ k - n := Nat.min_le_right _ _
    have hm3 : 1 ≤ min n (k - n) := by omega
    refine J_draw [0, 0, 0, 0, 0, 0, 0, 2, 0, 0] (List.range 10) (by kernel_rfl) (by kernel_rfl) ?_
    repeat' (first | refine Wkd ?_ | intro _ | apply And.intro)
    refine JX_val rfl rfl (OV_slice (m := (n : Int)) (n := (k : Int)) rfl rfl rfl rfl rfl rfl rfl (by omega) (by omega) (by omega) (p' := some ⟨b, 0 + n * 1, none⟩) ?_) rfl rfl ?_
    · rw [if_neg (by omega), Int.toNat_natCast, Option.map_some, addr_add]
    rw [show (k : Int).toNat - (n : Int).toNat = k - n by omega, show k - (n : Int).toNat = k - n by omega]
    repeat' (first | refine Wkd ?_ | intro _ | apply And.intro)
    refine JX_val rfl rfl (OV_slice (m := 0) (n := (n : Int)) rfl rfl rfl rfl rfl rfl rfl (by omega) (by omega) (by omega) (p' := some ⟨b, 0, none⟩) ?_) rfl rfl ?_
    · split
      · rfl
      · exact map_add0 _
    rw [show (n : Int).toNat - (0 : Int).toNat = n by omega]
    rw [show (0 + n * 1) = n by omega]
    refine JX_l rfl rfl (OL_copy (news := intsV (List.replicate (min n (k - n)) (-1))) rfl rfl rfl rfl P0 rfl (fun w hs => ?_) (plainL_ints _) (rep_put (m := min n (k - n)) (by omega))) rfl rfl ?_
    · have hr : Reads (blk b (intsV (List.replicate n (-1) ++ List.replicate (k - n) 0)) 3) 1 k (some ⟨b, 0, none⟩) k (intsV (List.replicate n (-1) ++ List.replicate (k - n) 0)) := Reads.blk (by simp; omega)
      have h3 := hr.sub1 0 (min n (k - n)) k (by omega)
      rw [List.drop_zero, rep_take hm1] at h3
      exact (h3.src (.head _)).2.2 w hs
    rintro _ _ ⟨rfl, rfl⟩
    repeat' (first | refine Wkd ?_ | intro _ | apply And.intro)
    repeat' (first | refine Wka ?_ | intro _ | apply And.intro)
    rw [show ((n : Int) + min (n : Int) ((k - n : Nat) : Int)) = ((n + min n (k - n) : Nat) : Int) by omega]
    exact At_round (n + min n (k - n)) (by show k - (n + min n (k - n)) < k - n; omega) ⟨by omega, by omega⟩ Sgt (fun H hl => hl)
  · have hnk : n = k := by omega
    subst hnk
    refine At_ret rfl rfl (.tmp rfl .nil) rfl (is := [0]) rfl ⟨b, rfl, ?_⟩
    simp
open Go.Sep
abbrev allocA (pa p pb k : Nat) (size : Int) : HP := blk pa [ptr p 0, sl pb k, .int .i64 size] 187
def bufSize (b : Int) : Int := if 4096 < (if b < 8 then 8 else b) then 4096 else if b < 8 then 8 else b
theorem New_ok (p k : Nat) (b : Int) (h1 : 1 ≤ k) (h2 : k ≤ 64) : Does Tryz.prog 45 [ptr p 0, .int .i64 k, .int .i64 b] []
    (fun v l => ∃ pa pb, v = .tuple #[ptr pa 0, .int .i64 0] ∧ l = [allocA pa p pb k (bufSize b), blk pb (intsV (List.replicate k (-1))) 3]) := by
  refine Does.of tiok Tryz.func45 (by kernel_rfl) rfl Tryz.ntmps45 rfl ?_
  intro W fr
  repeat' (first | refine Wka ?_ | intro _ | apply And.intro)
  refine JO_l (OL_buildSlice (cs := [.int .i64 (-1)]) rfl rfl rfl rfl rfl rfl rfl rfl) rfl rfl ?_
  rintro _ _ ⟨bx, rfl, rfl⟩
  repeat' (first | refine Wka ?_ | intro _ | apply And.intro)
  refine JO_l (OL_call [0] rfl rfl rfl (Repeat_spec bx k h1 h2) rfl) rfl rfl ?_; rintro _ _ ⟨_, ⟨pb, rfl, rfl⟩, rfl⟩
  repeat' (first | refine Wka ?_ | intro _ | apply And.intro)
  rename_i pa
  exact At_ret rfl rfl (.tmp rfl (.tmp rfl .nil)) rfl (is := [0, 0]) rfl ⟨pa, pb, rfl, rfl⟩
section ops
variable {pa pb p bw bs n T : Nat} {size : Int} {ws bu : List Int} {st : List Bool}
end ops
end Go.Proofs.YtfmkjbmogfhpbaaGreatDoor
namespace Go.Sep
open Go.RowKit
open Go.ChangeMaps Go.MapKept Go.WideShapes
open Go.WideElems (Fit rd rg pl rd_key rd_val rg_of other_key)
open Go.Maps (Keyed)
abbrev rI (P : Program) (e : Nat) : Value → Option (DataW Unit × List MemPlace) := plainElem (H := Unit) P e
abbrev datI (P : Program) (k e : Nat) (es : Array MapEntry) : DataW Unit := .map ((es.toList.map (rg P k (rI P e))).foldr DataW.insert [])
def wfI (z : Int) : Prop := (Lit.int .i64 z).wf = true
def mapI (P : Program) (k e b n : Nat) (f : Int → Int) : HP := fun h => ∃ (es : Array MapEntry) (clock : Nat), h b = some (.map es clock) ∧ Fit P k (rI P e) es clock ∧ es.size ≤ n ∧
  ∀ z, wfI z → (datI P k e es).atKey (.int .i64 z) (.lit (.int .i64 0)) = .lit (.int .i64 (f z))
theorem Stars.mapI {P : Program} {k e b n : Nat} {f : Int → Int} {l : List HP} {H : PH} (h : Stars (Sep.mapI P k e b n f :: l) H) : ∃ (es : Array MapEntry) (clock : Nat), Stars (pt b (.map es clock) :: l) H ∧ Fit P k (rI P e) es clock ∧ es.size ≤ n ∧
    ∀ z, wfI z → (datI P k e es).atKey (.int .i64 z) (.lit (.int .i64 0)) = .lit (.int .i64 (f z)) := by
  obtain ⟨h1, h2, ap, s1, s2, ⟨es, clock, hb, F, hs, hf⟩, hl⟩ := h
  exact ⟨es, clock, ⟨h1, h2, ap, s1, s2, hb, hl⟩, F, hs, hf⟩
section ops
variable {C : Ctx} {g : Regs} {l : List HP} {T k e : Nat}
theorem OL_makeMap (he : C.P.underlying e = some (.int .i64)) : OpL C g l (.makeMap T none) (fun v l' => ∃ b, v = .map (some b) ∧ l' = mapI C.P k e b 0 (fun _ => 0) :: l) :=
  ⟨(by intro c h; cases h), fun dst ty pos af gd a w hf hs K Q kk => by
    simp only [execOp, Option.map_none, Instr.makeMap, newObj, Sem.run_bind, Sem.run, Result.andThen, Pure.pure, Oper.uponIn]
    refine kk _ _ _ ⟨w.heap.size, rfl, rfl⟩ ?_
    have h1 : Sat C.W (pt w.heap.size (.map #[] 0) :: (l ++ C.fr)) (w.alloc (.map #[] 0)) := hs.alloc _
    refine h1.to fun H h => h.weak fun h2 hp => ⟨#[], 0, hp, ⟨by simp, stamped_empty 0, by simp⟩, Nat.le_refl _, fun z _ => rfl⟩⟩
theorem OV_buildA0 {len el n s1 s2 : Nat} {z : List Value} (ht : look C.ti T = some ⟨.array len el, s1, s2, z⟩) (hsz : sizeAt C.ti el = some n) : OpV C g (.build T #[]) (.agg z.toArray) := by
  refine ⟨(by intro c h; cases h), fun d ty pos af gd a w hf => ?_⟩
  have hu := run_underlying (und_array (C.ok.look ht) rfl) w
  obtain ⟨zv, hz, ez⟩ := run_zero w (C.ok.look ht)
  have e : zv.cells = z.toArray := by
    have ez' : zv.cells.toList = z := ez
    rw [← ez']
  have hs : (sizeOf el).run C.P w = .ok n w := sizeAt_run hsz w
  have hrun : (Instr.build T #[]).run C.P w = .ok (.agg z.toArray) w := by
    simp only [Instr.build, Sem.run_bind, hz, Result.andThen, hu, hs, Instr.fill, e]
    rfl
  simp only [execOp, List.map_toArray, List.map_nil]
  rw [Sem.run_bind, hrun]
  rfl
def rngI (P : Program) (k e b r n : Nat) (f : Int → Int) (cnt : Nat) : HP := fun h => ∃ (es : Array MapEntry) (clock since : Nat) (seen : Array Nat) (c0 : Nat), h b = some (.map es clock) ∧ Fit P k (rI P e) es clock ∧ es.size ≤ n ∧
  (∀ z, wfI z → (datI P k e es).atKey (.int .i64 z) (.lit (.int .i64 0)) = .lit (.int .i64 (f z))) ∧ h r = some (.mapIter (some b) since seen c0) ∧ (∀ x ∈ es.toList, x.born < since) ∧ (leftOf es seen).size = cnt ∧ since ≤ c0 ∧ since ≤ clock
theorem rngI.map {P : Program} {b r n cnt : Nat} {f : Int → Int} {h : PH} (H : rngI P k e b r n f cnt h) : mapI P k e b n f h := by
  obtain ⟨es, clock, since, seen, c0, h1, h2, h3, h4, _⟩ := H
  exact ⟨es, clock, h1, h2, h3, h4⟩
theorem Stars.two {a b : Nat} {x y : Obj} {l : List HP} {H : PH} (h : Stars (pt a x :: pt b y :: l) H) {p : HP} (k : ∀ h, h a = some x → h b = some y → p h) : Stars (p :: l) H :=
  (Stars.shut (ps := [pt a x, pt b y]) h).weak fun h1 hp => k h1 (Stars.at hp (.head _)) (Stars.at hp (.tail _ (.head _)))
end ops
end Go.Sep
set_option maxRecDepth 8000
namespace Go.Sep
section ops
variable {C : Ctx} {g : Regs}
theorem OV_sliceA0 {T e n sz s1 s2 b o : Nat} {k : IntKind} {z : List Value} {x lo : Operand} (ht : look C.ti T = some ⟨.array n e, s1, s2, z⟩) (hsz : sizeAt C.ti e = some sz)
    (hx : ev g x = some (ptr b o)) (hlo : ev g lo = some (.int k 0)) (hn : 0 < n) :
    OpV C g (.slice T x (some lo) none none) (.slice (some ⟨b, o, none⟩) n n) := by
  refine ⟨(by intro c h; cases h), fun d ty pos af gd a w hf => ?_⟩
  have hz : (sizeOf e).run C.P w = .ok sz w := sizeAt_run hsz w
  have hu := run_underlying (und_array (C.ok.look ht) rfl) w
  have hl := run_sliceBound (P := C.P) (k := k) (n := 0) (y := n) (code := .sliceB) w (by omega) (by omega)
  have hb : (Instr.sliceBounds false n n (some (.int k 0)) none none).run C.P w = .ok (0, n, n) w := by
    unfold Instr.sliceBounds
    simp only [Sem.run_bind, Pure.pure, Sem.run, Result.andThen, Option.isSome_none, Bool.false_eq_true, if_false]
    rw [hl]
    rfl
  have hne : ¬ n = 0 := by omega
  have hr : (Instr.sliceAt T (ptr b o) (some (.int k 0)) none none).run C.P w = .ok (.slice (some ⟨b, o, none⟩) n n) w := by
    simp only [Instr.sliceAt, Sem.run_bind, hu, Result.andThen, ptr, Instr.sureAddr, Sem.run, Pure.pure, hb, hz, if_neg hne, Nat.zero_mul, Nat.sub_zero]
    rfl
  simp only [execOp, hf.ev hx, Option.map_some, hf.ev hlo, Option.map_none]
  rw [Sem.run_bind, hr]
  rfl
end ops
end Go.Sep
namespace Go.Proofs.YtfmkjbmogfhpbaaGreatDoor
open Go.Sep
theorem Good1_zero : Does Tryz.prog 91 [.int .i64 0] [] (fun v l => v = .bool false ∧ l = []) := by
  refine Does.of tiok Tryz.func91 (by kernel_rfl) rfl Tryz.ntmps91 rfl ?_
  intro W fr
  repeat' (first | refine Wka ?_ | intro _ | apply And.intro)
  exact At_ret rfl rfl (.tmp rfl .nil) rfl (is := []) rfl ⟨rfl, rfl⟩
abbrev good1V : Value := .func (.func 91) #[] #[]
theorem IndexFunc_zeros {R : HP} {b o m : Nat} (hR : Reads R 1 m (some ⟨b, o, none⟩) m (List.replicate m (.int .i64 0))) (hl : m ≤ 100) :
    Does Tryz.prog 101 [.slice (some ⟨b, o, none⟩) m m, good1V] [R] (fun v l => v = .int .i64 (-1) ∧ l = [R]) := by
  refine Does.of tiok Tryz.func101 (by kernel_rfl) rfl Tryz.ntmps101 rfl ?_
  intro W fr
  repeat' (first | refine Wka ?_ | intro _ | apply And.intro)
  refine J_loop (α := Nat) (fun q => q ≤ m)
    (fun q => [(0, .slice (some ⟨b, o, none⟩) m m), (1, good1V), (7, .int .i64 m), (8, .int .i64 q)])
    (fun q => [R]) (fun q => m - q) 0 (Nat.zero_le _) Sgt (fun H hl => hl) ?_
  intro q hq
  repeat' (first | refine Wka ?_ | intro _ | apply And.intro)
  · rename_i hlt
    refine JO_val (OV_idx (off := o + q) rfl rfl rfl rfl (by omega) (by omega) (by omega)) rfl rfl ?_
    refine JO_q (OQ_read (i := q) (v := .int .i64 0) hR (by simp) rfl rfl (by omega) (by rw [List.getElem?_replicate, if_pos (by omega)])) rfl rfl ?_
    refine JO_l (OL_call [] rfl rfl rfl Good1_zero rfl) rfl rfl ?_
    rintro _ _ ⟨_, ⟨rfl, rfl⟩, rfl⟩
    repeat' (first | refine Wka ?_ | intro _ | apply And.intro)
    exact At_round (q + 1) (by show m - (q + 1) < m - q; omega) (by show q + 1 ≤ m; omega) Sgt (fun H hl => hl)
  · exact At_ret rfl rfl (.tmp rfl .nil) rfl (is := [0]) rfl ⟨rfl, rfl⟩
theorem ContainsFunc_zeros {R : HP} {b o m : Nat} (hR : Reads R 1 m (some ⟨b, o, none⟩) m (List.replicate m (.int .i64 0))) (hl : m ≤ 100) :
    Does Tryz.prog 65 [.slice (some ⟨b, o, none⟩) m m, good1V] [R] (fun v l => v = .bool false ∧ l = [R]) := by
  refine Does.of tiok Tryz.func65 (by kernel_rfl) rfl Tryz.ntmps65 rfl ?_
  intro W fr
  repeat' (first | refine Wka ?_ | intro _ | apply And.intro)
  refine JO_l (OL_call [0] rfl rfl rfl (IndexFunc_zeros hR hl) rfl) rfl rfl ?_
  rintro _ _ ⟨_, ⟨rfl, rfl⟩, rfl⟩
  repeat' (first | refine Wka ?_ | intro _ | apply And.intro)
  exact At_ret rfl rfl (.tmp rfl .nil) rfl (is := [0]) rfl ⟨rfl, rfl⟩
abbrev manyV : List Value := [.int .i64 0, .int .i64 4, .int .i64 0, .int .i64 1, .int .i64 0, .int .i64 2, .int .i64 3, .int .i64 3, .int .i64 2, .int .i64 0, .int .i64 2, .int .i64 0, .int .i64 0]
theorem Many_two {R : HP} (hR : Reads R 1 13 (some ⟨0, 0, none⟩) 13 manyV) : Does Tryz.prog 90 [.int .i64 2] [R] (fun v l => v = .int .i64 0 ∧ l = [R]) := by
  refine Does.of tiok Tryz.func90 (by kernel_rfl) rfl Tryz.ntmps90 rfl ?_
  intro W fr
  repeat' (first | refine Wka ?_ | intro _ | apply And.intro)
  refine JO_val (OV_idxA (off := 0 + 2) rfl rfl rfl rfl (by omega) (by decide) (by rfl)) rfl rfl ?_
  refine JO_q (OQ_read (i := 2) (v := .int .i64 0) hR (by simp) rfl rfl (by omega) (by rfl)) rfl rfl ?_
  repeat' (first | refine Wka ?_ | intro _ | apply And.intro)
  exact At_ret rfl rfl (.tmp rfl .nil) rfl (is := [0]) rfl ⟨rfl, rfl⟩
theorem Good_two {R : HP} (hR : Reads R 1 13 (some ⟨0, 0, none⟩) 13 manyV) : Does Tryz.prog 47 [.agg #[.int .i64 2, .int .i64 0, .int .i64 0, .int .i64 0, .int .i64 0]] [R] (fun v l => v = .bool true ∧ l = [R]) := by
  refine Does.of tiok Tryz.func47 (by kernel_rfl) rfl Tryz.ntmps47 rfl ?_
  intro W fr
  repeat' (first | refine Wka ?_ | intro _ | apply And.intro)
  refine JO_l (OL_call [1] rfl rfl rfl (Many_two hR) rfl) rfl rfl ?_
  rintro _ _ ⟨_, ⟨rfl, rfl⟩, rfl⟩
  repeat' (first | refine Wka ?_ | intro _ | apply And.intro)
  refine JO_val (OV_sliceA0 (n := 4) rfl rfl rfl rfl (by decide)) rfl rfl ?_
  repeat' (first | refine Wka ?_ | intro _ | apply And.intro)
  rename_i bx
  have hZ : Reads (blk bx [.int .i64 2, .int .i64 0, .int .i64 0, .int .i64 0, .int .i64 0] 74) 1 4 (some ⟨bx, 0 + 1, none⟩) 4 (List.replicate 4 (.int .i64 0)) := (Reads.blk (sz := 1) (m := 5) (cap := 5) rfl).sub1 1 4 4 (by omega)
  refine JO_l (OL_call [1] rfl rfl rfl (ContainsFunc_zeros hZ (by omega)) rfl) rfl rfl ?_
  rintro _ _ ⟨_, ⟨rfl, rfl⟩, rfl⟩
  repeat' (first | refine Wka ?_ | intro _ | apply And.intro)
  exact At_ret rfl rfl (.tmp rfl .nil) rfl (is := [1]) rfl ⟨rfl, rfl⟩
theorem Numbers18_spec : Does Tryz.prog 19 [.int .u8 20, .int .u8 0, .int .u8 0, .agg #[.int .u8 0, .int .u8 0, .int .u8 0, .int .u8 0, .int .u8 0]] []
    (fun v l => v = .agg #[.int .i64 21, .int .i64 1, .int .i64 8, .int .i64 1, .int .i64 2, .int .i64 1, .int .i64 1, .int .i64 2] ∧ l = []) := by
  refine Does.of tiok Tryz.func19 (by kernel_rfl) rfl Tryz.ntmps19 rfl ?_
  intro W fr
  have hN : Does Tryz.prog 9 [.agg #[.int .u8 0, .int .u8 0, .int .u8 0, .int .u8 0, .int .u8 0]] [] _ := Numbers15_spec (x0 := 0) (x1 := 0) (x2 := 0) (x3 := 0) (x4 := 0) (by omega) (by omega) (by omega) (by omega) (by omega)
  repeat' (first | refine Wka ?_ | intro _ | apply And.intro)
  refine JO_l (OL_call [] rfl rfl rfl hN rfl) rfl rfl ?_
  rintro _ _ ⟨_, ⟨rfl, rfl⟩, rfl⟩
  repeat' (first | refine Wka ?_ | intro _ | apply And.intro)
  exact At_ret rfl rfl (.agg rfl rfl rfl Mmt (by rfl) .nil) rfl (is := []) rfl ⟨rfl, rfl⟩
abbrev entry2 : Value := .agg #[.int .i64 2, .int .i64 0, .int .i64 0, .int .i64 0, .int .i64 0]
abbrev sysB (ps p pr pa : Nat) : HP := blk ps [.int .i64 21, .int .i64 1, .int .i64 8, .int .i64 1, .int .i64 2, .int .i64 1, .int .i64 1, .int .i64 2, ptr p 0, ptr pr 0, ptr pa 0, .pointer none, .bool false, .int .i64 0] 117
theorem Collecting_no {ps p pr pa : Nat} : Does Tryz.prog 49 [ptr ps 0] [sysB ps p pr pa] (fun v l => v = .bool false ∧ l = [sysB ps p pr pa]) := by
  refine Does.of tiok Tryz.func49 (by kernel_rfl) rfl Tryz.ntmps49 rfl ?_
  intro W fr
  repeat' (first | refine Wka ?_ | intro _ | apply And.intro)
  exact At_ret rfl rfl (.tmp rfl .nil) rfl (is := [0]) rfl ⟨rfl, rfl⟩
theorem change_nil {ps p pr pa rc rw_ : Nat} : Does Tryz.prog 52 [ptr ps 0, entry2] (sysB ps p pr pa :: Rt.rootsZ pr rc rw_ 0 none 0 [] 1) (fun v l => v = .int .i64 0 ∧ l = [sysB ps p pr pa]) := by
  refine Does.of tiok Tryz.func52 (by kernel_rfl) rfl Tryz.ntmps52 rfl ?_
  intro W fr
  repeat' (first | refine Wka ?_ | intro _ | apply And.intro)
  refine JO_l (OL_call [3, 3, 3] rfl rfl rfl (Rt.Push_ok 0 (Int.le_refl 0) (by decide)) rfl) rfl rfl ?_
  rintro _ _ ⟨_, ⟨ar, cr, rfl, rfl⟩, rfl⟩
  repeat' (first | refine Wka ?_ | intro _ | apply And.intro)
  exact At_ret rfl rfl (.tmp rfl .nil) rfl (is := [5]) rfl ⟨rfl, rfl⟩
theorem Do_nil {R : HP} {ps p pr pa rc rw_ : Nat} (hR : Reads R 1 13 (some ⟨0, 0, none⟩) 13 manyV) : Does Tryz.prog 21 [ptr ps 0, entry2] (R :: sysB ps p pr pa :: Rt.rootsZ pr rc rw_ 0 none 0 [] 1) (fun v l => v = .agg #[.int .i64 0, .int .i64 0] ∧ l = [R]) := by
  refine Does.of tiok Tryz.func21 (by kernel_rfl) rfl Tryz.ntmps21 rfl ?_
  intro W fr
  repeat' (first | refine Wka ?_ | intro _ | apply And.intro)
  refine JO_l (OL_call [2] rfl rfl rfl (Good_two hR) rfl) rfl rfl ?_
  rintro _ _ ⟨_, ⟨rfl, rfl⟩, rfl⟩
  repeat' (first | refine Wka ?_ | intro _ | apply And.intro)
  refine JO_l (OL_call [4] rfl rfl rfl Collecting_no rfl) rfl rfl ?_
  rintro _ _ ⟨_, ⟨rfl, rfl⟩, rfl⟩
  repeat' (first | refine Wka ?_ | intro _ | apply And.intro)
  refine JO_l (OL_call [0, 4, 4, 4] rfl rfl rfl change_nil rfl) rfl rfl ?_
  rintro _ _ ⟨_, ⟨rfl, rfl⟩, rfl⟩
  repeat' (first | refine Wka ?_ | intro _ | apply And.intro)
  exact At_ret rfl rfl (.agg rfl rfl rfl Mmt (by rfl) .nil) rfl (is := [3]) rfl ⟨rfl, rfl⟩
end Go.Proofs.YtfmkjbmogfhpbaaGreatDoor
set_option maxRecDepth 8000
namespace Go.Proofs.YtfmkjbmogfhpbaaGreatDoor
open Go.Sep Mk Ph
theorem graphOf_none {p c : Nat} {a : Option Addr} : Does Tryz.prog 46 [ptr p 0, .slice a 0 c] [] (fun v l => v = .tuple #[.agg #[.slice none 0 0, .slice none 0 0], .int .i64 0] ∧ l = []) := by
  refine Does.of tiok Tryz.func46 (by kernel_rfl) rfl Tryz.ntmps46 rfl ?_
  intro W fr
  repeat' (first | refine Wka ?_ | intro _ | apply And.intro)
  refine JO_l (OL_makeMap (k := 3) (e := 3) Tryz.underlying3) rfl rfl ?_
  rintro _ _ ⟨bm, rfl, rfl⟩
  repeat' (first | refine Wka ?_ | intro _ | apply And.intro)
  rename_i b4 b6 b7
  refine J_loop (α := Unit) (fun _ => True) (fun _ => [(4, ptr b4 0), (6, ptr b6 0), (7, ptr b7 0), (19, .int .i64 0), (20, .int .i64 0)])
    (fun _ => [blk b7 [.slice none 0 0, .slice none 0 0] 66, blk b6 [ptr p 0, .slice none 0 0, .map (some bm)] 191, blk b4 [.slice none 0 0, .slice none 0 0] 66]) (fun _ => 0) () trivial Sgt (fun H hl => hl.pick (is := [0, 0, 1]) rfl) ?_
  rintro _ _
  repeat' (first | refine Wkb ?_ | intro _ | apply And.intro)
  refine J_block ?_
  refine J_loop (α := Unit) (fun _ => True) (fun _ => [(4, ptr b4 0), (6, ptr b6 0), (7, ptr b7 0)])
    (fun _ => [blk b7 [.slice none 0 0, .slice none 0 0] 66, blk b6 [ptr p 0, .slice none 0 0, .map (some bm)] 191, blk b4 [.slice none 0 0, .slice none 0 0] 66]) (fun _ => 0) () trivial Sgt (fun H hl => hl) ?_
  rintro _ _
  repeat' (first | refine Wkb ?_ | intro _ | apply And.intro)
  refine J_drawk [blk b7 [.slice none 0 0, .slice none 0 0] 66, blk b6 [ptr p 0, .slice none 0 0, .map (some bm)] 191] (fun H hl => (hl.perm (picks_perm (is := [0, 0]) rfl)).left) [0, 5, 0, 0, 0, 0, 5, 0, 0] (List.range 9) (by kernel_rfl) (by kernel_rfl) ?_
  repeat' (first | refine Wke ?_ | intro _ | apply And.intro)
  repeat' (first | refine Wka ?_ | intro _ | apply And.intro)
  exact At_ret rfl rfl (.agg rfl rfl rfl Mmt (by rfl) (.tmp rfl .nil)) rfl (is := []) rfl ⟨rfl, rfl⟩
theorem Form_nil {ps p pr pa rc rw_ : Nat} : Does Tryz.prog 20 [ptr ps 0] (sysB ps p pr pa :: Rt.rootsZ pr rc rw_ 0 none 0 [] 1) (fun v l => v = .tuple #[.agg #[.slice none 0 0, .slice none 0 0], .int .i64 0] ∧ l = sysB ps p pr pa :: Rt.rootsZ pr rc rw_ 0 none 0 [] 1) := by
  refine Does.of tiok Tryz.func20 (by kernel_rfl) rfl Tryz.ntmps20 rfl ?_
  intro W fr
  repeat' (first | refine Wka ?_ | intro _ | apply And.intro)
  refine J_drawk [sysB ps p pr pa] (fun H hl => (hl.perm (picks_perm (is := [1]) rfl)).left) [0, 0, 0, 5, 0, 0, 0, 5, 2, 2, 0, 0, 2, 0] (List.range 14) (by kernel_rfl) (by kernel_rfl) ?_
  repeat' (first | refine Wke ?_ | intro _ | apply And.intro)
  refine JX_lk rfl rfl (OL_call [2, 2, 2] rfl rfl rfl (Rt.rootsAll (by decide)) rfl) rfl rfl ?_ ?_
  · rintro _ _ ⟨_, ⟨a', cap', _, rfl, rfl⟩, rfl⟩ H hl
    exact (hl.perm (picks_perm (is := [5]) rfl)).left
  rintro _ _ ⟨_, ⟨a', cap', _, rfl, rfl⟩, rfl⟩ _
  repeat' (first | refine Wke ?_ | intro _ | apply And.intro)
  refine JX_lk rfl rfl (OL_call [] rfl rfl rfl graphOf_none rfl) rfl rfl ?_ ?_
  · rintro _ _ ⟨_, ⟨rfl, rfl⟩, rfl⟩ H hl
    exact (hl.perm (picks_perm (is := [5]) rfl)).left
  rintro _ _ ⟨_, ⟨rfl, rfl⟩, rfl⟩ _
  repeat' (first | refine Wke ?_ | intro _ | apply And.intro)
  refine JX_l0k rfl rfl (OL_store (i := 4) rfl rfl rfl rfl rfl rfl rfl (by rfl)) rfl ?_ ?_
  · rintro _ _ rfl H hl
    exact (hl.perm (picks_perm (is := [5]) rfl)).left
  rintro _ _ rfl _
  repeat' (first | refine Wke ?_ | intro _ | apply And.intro)
  repeat' (first | refine Wka ?_ | intro _ | apply And.intro)
  exact At_ret rfl rfl (.agg rfl rfl rfl Mmt (by rfl) (.tmp rfl .nil)) rfl (is := [5, 2, 2, 2]) rfl ⟨rfl, rfl⟩
set_option maxHeartbeats 4000000 in
theorem SysNew {R : HP} : Does Tryz.prog 18 [.agg #[.int .i64 21, .int .i64 1, .int .i64 8, .int .i64 1, .int .i64 2, .int .i64 1, .int .i64 1, .int .i64 2]] [R]
    (fun v l => ∃ ps p pr pa rc rw_, v = .tuple #[ptr ps 0, .int .i64 0] ∧ l = R :: sysB ps p pr pa :: Rt.rootsZ pr rc rw_ 0 none 0 [] 1) := by
  have hN : Does Tryz.prog 22 [.int .i64 21] [] _ := heapNew_ok 21 (by decide) (by decide)
  refine Does.of tiok Tryz.func18 (by kernel_rfl) rfl Tryz.ntmps18 rfl ?_
  intro W fr
  repeat' (first | refine Wka ?_ | intro _ | apply And.intro)
  refine JO_l (OL_call [] rfl rfl rfl hN rfl) rfl rfl ?_
  rintro _ _ ⟨_, ⟨p, bw, bs, rfl, rfl⟩, rfl⟩
  clear hN
  have hA : Does Tryz.prog 45 [ptr p 0, .int .i64 1, .int .i64 8] [] _ := New_ok p 1 8 (by decide) (by decide)
  have hC : Does Tryz.prog 10 [ptr p 0, .slice none 0 0, .agg #[.int .i64 1, .int .i64 2, .int .i64 1, .int .i64 1, .int .i64 2]] (heapL p bw bs 21 (List.replicate 21 0) 0 (List.replicate 21 false) ++ [R]) _ :=
    CNew_spec (rts := []) (os := []) (la := none) (lc := 0) (W := 1) (rm := 2) (K := 1) (part := 1) (reg := 2) (HT.new (by decide)) rfl RefsOk.new (by decide) (by decide) (fun z hz => by cases hz) (by decide) Reads.nil (by decide) (by decide) (by decide) (by decide) (by unfold In64; decide)
  repeat' (first | refine Wka ?_ | intro _ | apply And.intro)
  refine JO_l (OL_call [] rfl rfl rfl hA rfl) rfl rfl ?_
  rintro _ _ ⟨_, ⟨pa, pb, rfl, rfl⟩, rfl⟩
  clear hA
  repeat' (first | refine Wka ?_ | intro _ | apply And.intro)
  rename_i b1
  refine JO_l (OL_call [2, 2, 2, 3] rfl rfl rfl hC rfl) rfl rfl ?_
  rintro _ _ ⟨_, ⟨E, V, hPo, hK, _, _, _, _, _, _, _, _, _, _, _, rfl, rfl⟩, rfl⟩
  clear hC
  have hRt : Does Tryz.prog 31 [.int .i64 1] [] _ := Rt.rootsNew 1
  repeat' (first | refine Wka ?_ | intro _ | apply And.intro)
  refine J_drawk [blk b1 [.int .i64 21, .int .i64 1, .int .i64 8, .int .i64 1, .int .i64 2, .int .i64 1, .int .i64 1, .int .i64 2] 62] (fun H hl => (hl.perm (picks_perm (is := [23]) rfl)).left) [5, 0, 0, 0, 5, 2, 0, 0, 2, 0, 0] [0, 1, 2, 3, 4, 6, 5, 7, 8, 9, 10] (by kernel_rfl) (by kernel_rfl) ?_
  repeat' (first | refine Wke ?_ | intro _ | apply And.intro)
  refine JX_lk rfl rfl (OL_call [] rfl rfl rfl hRt rfl) rfl rfl ?_ ?_
  · rintro _ _ ⟨_, ⟨pr, rc, rw_, rfl, rfl⟩, rfl⟩ H hl
    exact (hl.perm (picks_perm (is := [26]) rfl)).left
  rintro _ _ ⟨_, ⟨pr, rc, rw_, rfl, rfl⟩, rfl⟩ _
  repeat' (first | refine Wke ?_ | intro _ | apply And.intro)
  refine JX_lk rfl rfl (OL_box rfl rfl) rfl rfl ?_ ?_
  · rintro _ _ ⟨ps, rfl, rfl⟩ H hl
    exact (hl.perm (picks_perm (is := [27]) rfl)).left
  rintro _ _ ⟨ps, rfl, rfl⟩ _
  repeat' (first | refine Wke ?_ | intro _ | apply And.intro)
  repeat' (first | refine Wka ?_ | intro _ | apply And.intro)
  exact At_ret rfl rfl (.tmp rfl (.tmp rfl .nil)) rfl (is := [4, 0, 0, 0, 0]) rfl ⟨ps, p, pr, pa, rc, rw_, rfl, rfl⟩
theorem awake_top {R : HP} (hR : Reads R 1 13 (some ⟨0, 0, none⟩) 13 manyV) : Does Tryz.prog 5 [] [R] (fun v l => v = .bool true ∧ l = [R]) := by
  refine Does.of tiok Tryz.func5 (by kernel_rfl) rfl Tryz.ntmps5 rfl ?_
  intro W fr
  repeat' (first | refine Wka ?_ | intro _ | apply And.intro)
  refine JO_val (OV_buildA0 rfl rfl) rfl rfl ?_
  refine JO_l (OL_call [] rfl rfl rfl Numbers18_spec rfl) rfl rfl ?_
  rintro _ _ ⟨_, ⟨rfl, rfl⟩, rfl⟩
  repeat' (first | refine Wka ?_ | intro _ | apply And.intro)
  refine JO_l (OL_call [0] rfl rfl rfl (SysNew (R := R)) rfl) rfl rfl ?_
  rintro _ _ ⟨_, ⟨ps, p, pr, pa, rc, rw_, rfl, rfl⟩, rfl⟩
  repeat' (first | refine Wka ?_ | intro _ | apply And.intro)
  refine JO_l (OL_call [1, 1, 1, 1] rfl rfl rfl Form_nil rfl) rfl rfl ?_
  rintro _ _ ⟨_, ⟨rfl, rfl⟩, rfl⟩
  repeat' (first | refine Wka ?_ | intro _ | apply And.intro)
  refine JO_l (OL_call [5, 1, 1, 1, 1] rfl rfl rfl (Do_nil hR) rfl) rfl rfl ?_
  rintro _ _ ⟨_, ⟨rfl, rfl⟩, rfl⟩
  repeat' (first | refine Wka ?_ | intro _ | apply And.intro)
  exact At_ret rfl rfl (.tmp rfl .nil) rfl (is := [0]) rfl ⟨rfl, rfl⟩
end Go.Proofs.YtfmkjbmogfhpbaaGreatDoor
set_option maxRecDepth 8000
namespace Go.Proofs.YtfmkjbmogfhpbaaGreatDoor
open Go.Sep Mk Ph
abbrev pickV (y : Int × Int) : List Value := [.int .u8 y.1, .int .i64 y.2]
structure PkOk (R : HP) (a : Option Addr) (cap : Nat) (ys : List (Int × Int)) : Prop where
  rd : Reads R 2 ys.length a cap (ys.flatMap pickV)
  bd : ∀ y ∈ ys, (0 ≤ y.1 ∧ y.1 ≤ 255) ∧ In64 y.2
  ln : ys.length ≤ 9223372036854775807
def NmOk (X : List Value) (i : Nat) : Prop := ∃ y0 y1 y2 y3 y4 : Int, (0 ≤ y0 ∧ y0 ≤ 255) ∧ (0 ≤ y1 ∧ y1 ≤ 255) ∧ (0 ≤ y2 ∧ y2 ≤ 255) ∧ (0 ≤ y3 ∧ y3 ≤ 255) ∧ (0 ≤ y4 ∧ y4 ≤ 255) ∧ takeL X (i * 5) 5 = some [.int .u8 y0, .int .u8 y1, .int .u8 y2, .int .u8 y3, .int .u8 y4]
end Go.Proofs.YtfmkjbmogfhpbaaGreatDoor
