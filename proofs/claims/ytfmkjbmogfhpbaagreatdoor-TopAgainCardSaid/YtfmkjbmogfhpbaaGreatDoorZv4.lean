/-
  Our own: what the claims of Zv share, 4 of 6: Swb Sre Spa Spb Spc Spd Spe Spf Sib Mp Mzb Mzc Mq Mr Ms Mu Mv Mw Mx Sga Swc Swd.
-/
import Derived.Test.YtfmkjbmogfhpbaaGreatDoorZv3
import Derived.RangeFuncStops
import Derived.RangeFuncLeaves
import Derived.LoopNIn
import Derived.Laws.StructEq
import Derived.Tactics
import Derived.Laws.Slices
import Derived.Deep.Quiet
import Derived.IntWalk
import Derived.Shelf.Abstract
import Derived.Laws.Entries
import Derived.Laws.Rows
import Derived.Below
import Derived.TacticsIn
import Derived.OrdersIn
import Derived.KernelRfl
import Derived.Test.YtfmkjbmogfhpbaaGreatDoorProg
import Derived.ChangeArms
import Derived.WalkKit
import Derived.ProofKit
import Derived.OpenShut
import Derived.ChangeOld
import Derived.SizedLaws
import Derived.Carry
import Derived.Lib.SmallJoins
import Derived.Laws.Shifts
import Derived.Laws.Bits64b
set_option linter.unusedVariables false
set_option linter.unusedSimpArgs false
namespace Go.Proofs.YtfmkjbmogfhpbaaGreatDoor
open Go.Sep
def exA (B : List RO) : Nat := match B[0]? with
  | none => 0
  | some o => o.i
def exB (B : List RO) : Nat := match B[B.length - 1]? with
  | none => 0
  | some o => o.i + 1 + o.ws.length
abbrev fstI (w : Nat) (L : List RO) (k : Nat) : Nat := szL (befR w k L)
abbrev lvI (w : Nat) (L : List RO) (k : Nat) : Nat := szL (inR w k L)
def ahB (w : Nat) (L : List RO) (k r : Nat) : Bool := decide (exA (inR w r L) < fstI w L k + lvI w L k) && decide (fstI w L k < exB (inR w r L))
def ahL (w : Nat) (L : List RO) (k n : Nat) : List Int := ((List.range n).filter (ahB w L k)).map fun (r : Nat) => (r : Int)
theorem ahL_next {w : Nat} {L : List RO} {k n : Nat} : ahL w L k (n + 1) = ahL w L k n ++ (if ahB w L k n then [(n : Int)] else []) := by
  unfold ahL
  rw [List.range_succ, List.filter_append, List.map_append]
  cases h : ahB w L k n <;> simp [h]
theorem ahL_len {w : Nat} {L : List RO} {k n : Nat} : (ahL w L k n).length ≤ n := by
  unfold ahL
  rw [List.length_map]
  have := List.length_filter_le (ahB w L k) (List.range n)
  rw [List.length_range] at this
  exact this
theorem inR_os {w k j : Nat} {ms : List Nat} {os : List RO} {o : RO} (h : (inR w k (lvs ms os))[j]? = some o) : ∃ i : Nat, os[i]? = some o ∧ lvB ms o = true ∧ o.i / w = k := by
  have h1 := List.mem_of_getElem? h
  obtain ⟨h2, h3⟩ := List.mem_filter.1 h1
  obtain ⟨h4, h5⟩ := List.mem_filter.1 h2
  obtain ⟨i, hi⟩ := List.getElem?_of_mem h4
  exact ⟨i, hi, h5, of_decide_eq_true h3⟩
section ops
variable {ps pf p bw bs pm bm bst bf n T w nR pw pz nW wc : Nat} {wa : Option Addr} {pv mv tv : Int} {ws : List Int} {st : List Bool} {os : List RO} {ms : List Nat} {rs : List RG} {fs : List Int}
set_option maxHeartbeats 8000000 in
theorem Extent_spec (h : HT n T ws st) (hc : Ch ws 0 os T) (hF : RF w nR (lvs ms os) rs fs) (k : Nat) (hk : k < nR) :
    Does Tryz.prog 172 [ptr ps 0, .int .i64 k] (sdB ps pf p pw pz wa nW wc pv mv tv :: fwdL pf p bw bs pm bm bst bf n T w nR ws st ms rs fs)
    (fun v l => v = .tuple #[.int .i64 (exA (inR w k (lvs ms os)) : Nat), .int .i64 (exB (inR w k (lvs ms os)) : Nat)] ∧ l = sdB ps pf p pw pz wa nW wc pv mv tv :: fwdL pf p bw bs pm bm bst bf n T w nR ws st ms rs fs) := by
  have hrl := hF.rl
  obtain ⟨r, hr⟩ : ∃ r, rs[k]? = some r := ⟨rs[k]'(by omega), List.getElem?_eq_getElem _⟩
  have hrc := hF.rc k r hr
  have hcl := hF.clen hr
  obtain ⟨B, hB⟩ : ∃ B, B = inR w k (lvs ms os) := ⟨_, rfl⟩
  have hlen : r.c.length = B.length := by rw [hrc, hB]; unfold stI; rw [List.length_map]
  have hget : ∀ (j : Nat) (o : RO), B[j]? = some o → r.c[j]? = some (o.i : Int) := by
    intro j o ho
    rw [hrc]
    unfold stI
    rw [List.getElem?_map, ← hB, ho]; rfl
  rw [← hB]
  have hBo : ∀ (j : Nat) (o : RO), B[j]? = some o → ∃ i : Nat, os[i]? = some o := fun j o ho => by
    rw [hB] at ho
    obtain ⟨i, hi, _⟩ := inR_os ho
    exact ⟨i, hi⟩
  have htn := h.tn
  have hnb := h.nb
  refine Does.of tiok Tryz.func172 (by kernel_rfl) rfl Tryz.ntmps172 rfl ?_
  intro W fr
  repeat' (first | refine Wka ?_ | intro _ | apply And.intro)
  refine JO_l (OL_call [7, 7] rfl rfl rfl (RegStays_spec (w := w) (bf := bf) (bst := bst) (nR := nR) k hr hF.rl hF.nb hcl) rfl) rfl rfl ?_
  rintro _ _ ⟨_, ⟨a, cap, hn, rfl, rfl⟩, rfl⟩
  rw [hlen] at hn
  rw [hlen]
  by_cases h0 : B.length = 0
  · repeat' (first | refine Wka ?_ | intro _ | apply And.intro)
    refine At_ret rfl rfl (.tmp rfl (.tmp rfl .nil)) rfl (is := [3, 3, 3, 3, 3, 3, 3, 1, 1, 1]) rfl ⟨?_, rfl⟩
    rw [List.eq_nil_of_length_eq_zero h0]
    rfl
  · obtain ⟨o0, ho0⟩ : ∃ o0, B[0]? = some o0 := ⟨B[0]'(by omega), List.getElem?_eq_getElem _⟩
    obtain ⟨o1, ho1⟩ : ∃ o1, B[B.length - 1]? = some o1 := ⟨B[B.length - 1]'(by omega), List.getElem?_eq_getElem _⟩
    have e0 : exA B = o0.i := by unfold exA; rw [ho0]
    have e1 : exB B = o1.i + 1 + o1.ws.length := by unfold exB; rw [ho1]
    obtain ⟨i1, hi1⟩ := hBo _ _ ho1
    have hol := hc.o_lt hi1
    rw [e0, e1]
    repeat' (first | refine Wka ?_ | intro _ | apply And.intro)
    have hRow : Reads (row 3 1 a B.length cap (intsV r.c)) 1 B.length a cap (intsV r.c) := Reads.row (by simp [hlen]) hn
    refine JO_fact _ (fun w hs => hRow.some (by omega) hs (.head _)) ?_
    rintro ⟨b2, o2, rfl⟩
    refine JO_val (OV_idx (off := o2 + (B.length - 1)) rfl rfl rfl rfl (by omega) (by omega) (by omega)) rfl rfl ?_
    refine JO_q (OQ_read (i := B.length - 1) (v := .int .i64 o1.i) hRow (.head _) rfl rfl (by omega) (by simp [intsV, hget _ _ ho1])) rfl rfl ?_
    repeat' (first | refine Wka ?_ | intro _ | apply And.intro)
    refine JO_l (OL_call [5, 5, 5] rfl rfl rfl (HeadO_ok (p := p) (bw := bw) (bs := bs) h hc hi1) rfl) rfl rfl ?_
    rintro _ _ ⟨_, ⟨rfl, rfl⟩, rfl⟩
    repeat' (first | refine Wka ?_ | intro _ | apply And.intro)
    refine J_draw [0, 0, 1, 0, 0, 0, 1, 0, 0, 0] (List.range 10) (by kernel_rfl) (by kernel_rfl) ?_
    repeat' (first | refine Wkd ?_ | intro _ | apply And.intro)
    refine JX_val rfl rfl (OV_idx (off := o2 + 0) rfl rfl rfl rfl (by omega) (by omega) (by simp)) rfl rfl ?_
    refine JX_q rfl rfl (OQ_read (i := 0) (v := .int .i64 o0.i) hRow (by simp) rfl rfl (by omega) (by simp [intsV, hget _ _ ho0])) rfl rfl ?_
    repeat' (first | refine Wkd ?_ | intro _ | apply And.intro)
    repeat' (first | refine Wka ?_ | intro _ | apply And.intro)
    exact At_ret rfl rfl (.tmp rfl (.tmp rfl .nil)) rfl (is := [7, 7, 1, 1, 1, 4, 4, 2, 2, 2]) rfl ⟨rfl, rfl⟩
set_option maxHeartbeats 8000000 in
theorem Ahead_spec (h : HT n T ws st) (hc : Ch ws 0 os T) (hF : RF w nR (lvs ms os) rs fs) (k : Nat) (hk : k < nR) :
    Does Tryz.prog 152 [ptr ps 0, .int .i64 k] (sdB ps pf p pw pz wa nW wc pv mv tv :: fwdL pf p bw bs pm bm bst bf n T w nR ws st ms rs fs)
    (fun v l => ∃ a cap, v = .slice a (ahL w (lvs ms os) k k).length cap ∧ l = rowz 3 1 a (ahL w (lvs ms os) k k).length cap (intsV (ahL w (lvs ms os) k k)) :: sdB ps pf p pw pz wa nW wc pv mv tv :: fwdL pf p bw bs pm bm bst bf n T w nR ws st ms rs fs) := by
  have htn := h.tn
  have hnb := h.nb
  have hnR := hF.nb
  have hb1 := hF.bef k
  have hb2 := hF.bef (k + 1)
  have hnx := befR_next (w := w) (k := k) (L := lvs ms os)
  refine Does.of tiok Tryz.func152 (by kernel_rfl) rfl Tryz.ntmps152 rfl ?_
  intro W fr
  repeat' (first | refine Wka ?_ | intro _ | apply And.intro)
  refine J_drawk [sdB ps pf p pw pz wa nW wc pv mv tv, blk pf (fwdV p pm w bst bf nR) 219] (fun H hl => hl.pick (is := [0, 0]) rfl) [0, 0, 0, 5, 0, 0, 5, 0, 2, 0, 0, 0, 5, 0, 0, 5, 0, 2, 0, 0, 0, 5, 0, 0, 5, 0, 2, 0, 0, 0] [0, 1, 2, 3, 4, 5, 6, 7, 9, 10, 11, 12, 13, 14, 15, 16, 18, 19, 20, 21, 22, 23, 24, 25, 8, 17, 26, 27, 28, 29] (by kernel_rfl) (by kernel_rfl) ?_
  repeat' (first | refine Wkd ?_ | intro _ | apply And.intro)
  refine JX_lk rfl rfl (OL_call [9] rfl rfl rfl (RegFirst_spec (w := w) (bst := bst) (bf := bf) (nR := nR) k (hF.fb k (by omega)) hF.fl hF.nb) rfl) rfl rfl ?_ ?_
  · rintro _ _ ⟨_, ⟨rfl, rfl⟩, rfl⟩ H hl
    exact hl.pick (is := [1, 1]) rfl
  rintro _ _ ⟨_, ⟨rfl, rfl⟩, rfl⟩ _
  repeat' (first | refine Wkd ?_ | intro _ | apply And.intro)
  refine JX_lk rfl rfl (OL_call [0] rfl rfl rfl (RegFirst_spec (w := w) (bst := bst) (bf := bf) (nR := nR) k (hF.fb k (by omega)) hF.fl hF.nb) rfl) rfl rfl ?_ ?_
  · rintro _ _ ⟨_, ⟨rfl, rfl⟩, rfl⟩ H hl
    exact hl.pick (is := [1, 1]) rfl
  rintro _ _ ⟨_, ⟨rfl, rfl⟩, rfl⟩ _
  repeat' (first | refine Wkd ?_ | intro _ | apply And.intro)
  refine JX_lk rfl rfl (OL_call [0] rfl rfl rfl (RegLive_spec (w := w) (bst := bst) (bf := bf) (nR := nR) k (hF.fb k (by omega)) (hF.live hk) hF.fl hF.nb (by omega) (by omega)) rfl) rfl rfl ?_ ?_
  · rintro _ _ ⟨_, ⟨rfl, rfl⟩, rfl⟩ H hl
    exact hl.pick (is := [1, 1]) rfl
  rintro _ _ ⟨_, ⟨rfl, rfl⟩, rfl⟩ _
  repeat' (first | refine Wkd ?_ | intro _ | apply And.intro)
  repeat' (first | refine Wka ?_ | intro _ | apply And.intro)
  have hto : ((szL (befR w k (lvs ms os)) : Nat) : Int) + ((szL (inR w k (lvs ms os)) : Int) + (szL (befR w k (lvs ms os)) : Int) - (szL (befR w k (lvs ms os)) : Int)) = ((fstI w (lvs ms os) k + lvI w (lvs ms os) k : Nat) : Int) := by
    show _ = ((szL (befR w k (lvs ms os)) + szL (inR w k (lvs ms os)) : Nat) : Int)
    omega
  rw [hto]
  refine J_loop (α := Nat × Option Addr × Nat) (fun x => x.1 ≤ k)
    (fun x => [(0, ptr ps 0), (5, .slice x.2.1 (ahL w (lvs ms os) k x.1).length x.2.2), (6, .int .i64 (fstI w (lvs ms os) k : Nat)), (7, .int .i64 (fstI w (lvs ms os) k + lvI w (lvs ms os) k : Nat)), (39, .int .i64 k), (40, .int .i64 x.1)])
    (fun x => row 3 1 x.2.1 (ahL w (lvs ms os) k x.1).length x.2.2 (intsV (ahL w (lvs ms os) k x.1)) :: sdB ps pf p pw pz wa nW wc pv mv tv :: fwdL pf p bw bs pm bm bst bf n T w nR ws st ms rs fs) (fun x => k - x.1) (0, none, 0) (Nat.zero_le _) Sgt
    (fun H hl => row_nil (hl.pick (is := [1, 1, 1, 1, 1, 1, 1, 1, 1, 0]) rfl)) ?_
  rintro ⟨q, a0, c0⟩ hq
  dsimp only at hq ⊢
  repeat' (first | refine Wkb ?_ | intro _ | apply And.intro)
  · rename_i hlt
    refine J_block ?_
    have hln := ahL_len (w := w) (L := lvs ms os) (k := k) (n := q)
    have hnx := ahL_next (w := w) (L := lvs ms os) (k := k) (n := q)
    repeat' (first | refine Wka ?_ | intro _ | apply And.intro)
    refine JO_l (OL_call [1, 1, 1, 1, 1, 1, 1, 1, 1, 1] rfl rfl rfl (Extent_spec h hc hF q (by omega)) rfl) rfl rfl ?_
    rintro _ _ ⟨_, ⟨rfl, rfl⟩, rfl⟩
    have hAB : (ahB w (lvs ms os) k q = true) ↔ ((exA (inR w q (lvs ms os)) : Nat) : Int) < ((fstI w (lvs ms os) k + lvI w (lvs ms os) k : Nat) : Int) ∧ ((fstI w (lvs ms os) k : Nat) : Int) < ((exB (inR w q (lvs ms os)) : Nat) : Int) := by
      unfold ahB
      rw [Bool.and_eq_true, decide_eq_true_iff, decide_eq_true_iff]
      omega
    generalize ahB w (lvs ms os) k q = tt at hAB hnx
    generalize fstI w (lvs ms os) k + lvI w (lvs ms os) k = TO at hAB ⊢
    generalize exA (inR w q (lvs ms os)) = EA at hAB ⊢
    generalize exB (inR w q (lvs ms os)) = EB at hAB ⊢
    generalize fstI w (lvs ms os) k = FS at hAB ⊢
    cases tt with
    | true =>
      obtain ⟨c1, c2⟩ := hAB.1 rfl
      repeat' (first | refine Wka ?_ | intro _ | apply And.intro)
      refine JO_l (OL_buildSlice (cs := [.int .i64 q]) rfl rfl rfl rfl rfl rfl rfl rfl) rfl rfl ?_
      rintro _ _ ⟨b, rfl, rfl⟩
      refine JO_l (OL_append (i := 11) rfl rfl rfl rfl rfl rfl ((Reads.blk rfl).src (.head _)) rfl rfl (fun _ h => by cases h) (by omega) (by omega) (by decide)) rfl rfl ?_
      rintro _ _ ⟨a', cap', rfl, rfl⟩
      have hlen : (ahL w (lvs ms os) k (q + 1)).length = (ahL w (lvs ms os) k q).length + 1 := by rw [hnx, if_pos rfl]; simp
      repeat' (first | refine Wka ?_ | intro _ | apply And.intro)
      refine At_round (q + 1, a', cap') (by show k - (q + 1) < k - q; omega) (by show q + 1 ≤ k; omega) (by rw [hlen]; exact Sgt) (fun H hl => ?_)
      rw [hlen, hnx, if_pos rfl]
      have h3 := hl.pick (l := _) (is := [0, 1, 1, 1, 1, 1, 1, 1, 1, 1, 1]) rfl
      rw [show intsV (ahL w (lvs ms os) k q ++ [(q : Int)]) = intsV (ahL w (lvs ms os) k q) ++ [.int .i64 q] by simp [intsV]]
      exact h3
    | false =>
      rw [if_neg (by decide), List.append_nil] at hnx
      by_cases c1 : (EA : Int) < TO
      · have c2 : ¬ (FS : Int) < EB := fun c2 => absurd (hAB.2 ⟨c1, c2⟩) (by decide)
        repeat' (first | refine Wka ?_ | intro _ | apply And.intro)
        exact At_round (q + 1, a0, c0) (by show k - (q + 1) < k - q; omega) (by show q + 1 ≤ k; omega) (by rw [hnx]; exact Sgt) (fun H hl => by rw [hnx]; exact hl.pick (is := [10, 0, 0, 0, 0, 0, 0, 0, 0, 0, 0]) rfl)
      · repeat' (first | refine Wka ?_ | intro _ | apply And.intro)
        exact At_round (q + 1, a0, c0) (by show k - (q + 1) < k - q; omega) (by show q + 1 ≤ k; omega) (by rw [hnx]; exact Sgt) (fun H hl => by rw [hnx]; exact hl.pick (is := [10, 0, 0, 0, 0, 0, 0, 0, 0, 0, 0]) rfl)
  · have hqe : q = k := by omega
    subst hqe
    exact At_ret' rfl rfl (.tmp rfl .nil) rfl (fun H hl => rowz_row hl) ⟨a0, c0, rfl, rfl⟩
end ops
open Go.Sep
def fwdW (ms : List Nat) (os : List RO) (z z' : Int) : Prop := (z = 0 ∧ z' = 0) ∨ ∃ (j : Nat) (o : RO), os[j]? = some o ∧ lvB ms o = true ∧ z = (o.i : Int) + 1 ∧ z' = (goI ms os j : Int) + 1
theorem LeadP.of {n T : Nat} {ws : List Int} {st : List Bool} {os : List RO} (h : HT n T ws st) (hc : Ch ws 0 os T) (hr : RefsOk ws st) : LeadP os := by
  intro j o ho k w hk hw
  have hl := (refs_iff h hc).1 hr o (List.mem_of_getElem? ho) k w hk hw
  have h2 := of_decide_eq_true hl
  rcases h2 with h0 | ⟨h1, hs, _⟩
  · exact .inl h0
  · right
    have hst : (0 = T ∨ st[0]? = some true) := h.zero.imp Eq.symm id
    obtain ⟨o', ho', he⟩ := Ch.find h hc hst (w - 1).toNat (Nat.zero_le _) hs
    obtain ⟨j', hj'⟩ := List.getElem?_of_mem ho'
    exact ⟨j', o', hj', by omega⟩
section ops
variable {ps pf p bw bs pm bm bst bf n T w nR pw bw2 pz bz : Nat} {ws : List Int} {st : List Bool} {os : List RO} {ms : List Nat} {rs : List RG} {fs : List Int} {wds sts : List Int} {wa : Option Addr} {wc : Nat} {xs : List WX} {pv mv tv : Int} {Rl : HP} {la : Option Addr} {lc : Nat} {zs : List Int}
set_option maxHeartbeats 8000000 in
theorem Roots_spec (h : HT n T ws st) (hc : Ch ws 0 os T) (hM : MI n ms) (hF : RF w nR (lvs ms os) rs fs) (hR : nR = numR w T) (hL : Reads Rl 1 zs.length la lc (intsV zs)) (hl : zs.length ≤ 65536) (hz : ∀ z ∈ zs, In64 z) :
    Does Tryz.prog 39 [ptr ps 0, .slice la zs.length lc] (sldZ ps pf p bw bs pm bm bst bf n T w nR pw bw2 pz bz ws st ms rs fs wds sts wa wc xs pv mv tv ++ [Rl])
    (fun v l => (∃ (out : List Int) (a' : Option Addr) (c' : Nat), out.length = zs.length ∧ (∀ (q : Nat) (z z' : Int), zs[q]? = some z → out[q]? = some z' → fwdW ms os z z') ∧ (∀ z ∈ zs, z = 0 ∨ LiveAt ms os (z - 1)) ∧ v = .tuple #[.slice a' zs.length c', .int .i64 0] ∧
        l = row 3 1 a' zs.length c' (intsV out) :: (sldZ ps pf p bw bs pm bm bst bf n T w nR pw bw2 pz bz ws st ms rs fs wds sts wa wc xs pv mv tv ++ [Rl])) ∨
      ((¬ ∀ z ∈ zs, z = 0 ∨ LiveAt ms os (z - 1)) ∧ v = .tuple #[.slice none 0 0, .int .i64 5] ∧ l = sldZ ps pf p bw bs pm bm bst bf n T w nR pw bw2 pz bz ws st ms rs fs wds sts wa wc xs pv mv tv ++ [Rl])) := by
  refine Does.of tiok Tryz.func39 (by kernel_rfl) rfl Tryz.ntmps39 rfl ?_
  intro W fr
  repeat' (first | refine Wka ?_ | intro _ | apply And.intro)
  refine J_loop (α := Nat × List Int × Option Addr × Nat) (fun x => x.1 ≤ zs.length ∧ x.2.1.length = x.1 ∧ (∀ (q : Nat) (z z' : Int), zs[q]? = some z → x.2.1[q]? = some z' → fwdW ms os z z') ∧ ∀ (q : Nat) (z : Int), q < x.1 → zs[q]? = some z → z = 0 ∨ LiveAt ms os (z - 1))
    (fun x => [(0, ptr ps 0), (6, .slice x.2.2.1 x.1 x.2.2.2), (11, .slice la zs.length lc), (12, .int .i64 zs.length), (13, .int .i64 x.1)])
    (fun x => row 3 1 x.2.2.1 x.1 x.2.2.2 (intsV x.2.1) :: (sldZ ps pf p bw bs pm bm bst bf n T w nR pw bw2 pz bz ws st ms rs fs wds sts wa wc xs pv mv tv ++ [Rl])) (fun x => zs.length - x.1) (0, [], none, 0)
    ⟨Nat.zero_le _, rfl, fun q z z' _ h2 => (by cases h2), fun q z hq => absurd hq (Nat.not_lt_zero _)⟩ Sgt (fun H hl => row_nil hl) ?_
  rintro ⟨q, out, a0, c0⟩ ⟨hq, hol, hI, hJ⟩
  dsimp only at hq hol hI hJ ⊢
  repeat' (first | refine Wkb ?_ | intro _ | apply And.intro)
  · rename_i hlt
    refine J_block ?_
    obtain ⟨y, hy⟩ : ∃ y, zs[q]? = some y := ⟨zs[q]'(by omega), List.getElem?_eq_getElem _⟩
    have hy64 := hz y (List.mem_of_getElem? hy)
    repeat' (first | refine Wka ?_ | intro _ | apply And.intro)
    refine JO_fact _ (fun w hs2 => hL.some (by omega) hs2 (by simp)) ?_
    rintro ⟨b2, o2, rfl⟩
    refine JO_val (OV_idx (off := o2 + q) rfl rfl rfl rfl (by omega) (by omega) (by simp)) rfl rfl ?_
    refine JO_q (OQ_read (i := q) (v := .int .i64 y) hL (by simp) rfl rfl (by omega) (by simp [intsV, hy])) rfl rfl ?_
    repeat' (first | refine Wka ?_ | intro _ | apply And.intro)
    have hWd : ∃ (w' e : Int), ((e = 0 ∧ fwdW ms os y w' ∧ (y = 0 ∨ LiveAt ms os (y - 1))) ∨ (e = 5 ∧ ¬ (y = 0 ∨ LiveAt ms os (y - 1)))) ∧ Does Tryz.prog 80 [ptr pf 0, .int .i64 y] (fwdL pf p bw bs pm bm bst bf n T w nR ws st ms rs fs)
        (fun v l => v = .tuple #[.int .i64 w', .int .i64 e] ∧ l = fwdL pf p bw bs pm bm bst bf n T w nR ws st ms rs fs) := by
      by_cases hlv : LiveAt ms os (y - 1)
      · have hlv' := hlv
        obtain ⟨j2, o2, hj2, hl2, he⟩ := hlv'
        have hyo : y = (o2.i : Int) + 1 := by omega
        have hW := Word_yes (pf := pf) (p := p) (bw := bw) (bs := bs) (pm := pm) (bm := bm) (bst := bst) (bf := bf) h hc hM hF hR hj2 hl2
        rw [← hyo] at hW
        exact ⟨_, 0, .inl ⟨rfl, .inr ⟨j2, o2, hj2, hl2, hyo, rfl⟩, .inr hlv⟩, hW⟩
      · by_cases h0 : y = 0
        · rw [h0]
          exact ⟨0, 0, .inl ⟨rfl, .inl ⟨rfl, rfl⟩, .inl rfl⟩, Word_zero⟩
        · exact ⟨0, 5, .inr ⟨rfl, by rintro (e | e); exact h0 e; exact hlv e⟩, Word_no h0 hy64 h hc hM hlv⟩
    obtain ⟨w', e, he, hWd⟩ := hWd
    refine JO_l (OL_call [9, 6, 6, 6, 6, 6, 6, 6, 6] rfl rfl rfl hWd rfl) rfl rfl ?_
    rintro _ _ ⟨_, ⟨rfl, rfl⟩, rfl⟩
    rcases he with ⟨rfl, hf, hg⟩ | ⟨rfl, hbad⟩
    · repeat' (first | refine Wka ?_ | intro _ | apply And.intro)
      refine JO_l (OL_buildSlice (cs := [.int .i64 w']) rfl rfl rfl rfl rfl rfl rfl rfl) rfl rfl ?_
      rintro _ _ ⟨b, rfl, rfl⟩
      refine JO_l (OL_append (i := 10) rfl rfl rfl rfl rfl rfl ((Reads.blk rfl).src (.head _)) rfl rfl (fun _ h => by cases h) (by omega) (by omega) (by decide)) rfl rfl ?_
      rintro _ _ ⟨a', cap', rfl, rfl⟩
      repeat' (first | refine Wka ?_ | intro _ | apply And.intro)
      refine At_round (q + 1, out ++ [w'], a', cap') (by show zs.length - (q + 1) < zs.length - q; omega) ⟨by show q + 1 ≤ zs.length; omega, by simp [hol], fun k z z' h1 h2 => ?_, fun k z hk h1 => ?_⟩ Sgt (fun H hl => ?_)
      · dsimp only at h2
        by_cases e : k = q
        · subst e
          rw [hy] at h1; injection h1 with h1; subst h1
          rw [List.getElem?_append_right (by omega), hol, Nat.sub_self] at h2
          injection h2 with h2; subst h2
          exact hf
        · have hkl : k < out.length := by
            have := (List.getElem?_eq_some_iff.1 h2).1
            rw [List.length_append, List.length_singleton] at this
            omega
          rw [List.getElem?_append_left hkl] at h2
          exact hI k z z' h1 h2
      · by_cases e : k = q
        · subst e
          rw [hy] at h1; injection h1 with h1; subst h1; exact hg
        · exact hJ k z (by dsimp only at hk; omega) h1
      · have h3 := hl.pick (l := _) (is := [0, 10, 10, 10, 10, 10, 2, 2, 2, 1, 1, 1, 1, 1, 1, 1]) rfl
        rw [show intsV (out ++ [w']) = intsV out ++ [.int .i64 w'] by simp [intsV]]
        exact h3
    · repeat' (first | refine Wka ?_ | intro _ | apply And.intro)
      exact At_ret rfl rfl (.tmp rfl (.tmp rfl .nil)) rfl (is := [10, 10, 10, 10, 10, 1, 1, 1, 0, 0, 0, 0, 0, 0, 1]) rfl (.inr ⟨fun e => hbad (e y (List.mem_of_getElem? hy)), rfl, rfl⟩)
  · have hqe : q = zs.length := by omega
    subst hqe
    repeat' (first | refine Wka ?_ | intro _ | apply And.intro)
    exact At_ret rfl rfl (.tmp rfl (.tmp rfl .nil)) rfl (is := [0, 0, 0, 0, 0, 0, 0, 0, 0, 0, 0, 0, 0, 0, 0, 0]) rfl (.inl ⟨out, a0, c0, hol, hI, fun z hz => (by obtain ⟨k, hk⟩ := List.getElem?_of_mem hz; exact hJ k z (List.getElem?_eq_some_iff.1 hk).1 hk), rfl, rfl⟩)
end ops
open Go.Sep
theorem Ch.pw {ws : List Int} {T : Nat} : ∀ {os : List RO} {i : Nat}, Ch ws i os T → os.Pairwise fun a b => a.i + 1 + a.ws.length ≤ b.i
  | [], _, _ => .nil
  | o :: r, i, h => .cons (fun b hb => by have := Ch.ge h.2.2.2.2 b hb; have := h.1; omega) (Ch.pw h.2.2.2.2)
theorem pw_at {L : List RO} (h : L.Pairwise fun a b => a.i + 1 + a.ws.length ≤ b.i) {q q' : Nat} {o o' : RO} (hq : L[q]? = some o) (hq' : L[q']? = some o') (hlt : q < q') : o.i + 1 + o.ws.length ≤ o'.i := by
  obtain ⟨h1, e1⟩ := List.getElem?_eq_some_iff.1 hq
  obtain ⟨h2, e2⟩ := List.getElem?_eq_some_iff.1 hq'
  have := List.pairwise_iff_getElem.1 h q q' h1 h2 hlt
  rw [e1, e2] at this
  exact this
theorem szL_take {L : List RO} {q : Nat} : szL (L.take q) ≤ szL L := by
  conv => rhs; rw [← List.take_append_drop q L]
  rw [szL_app]
  exact Nat.le_add_right _ _
theorem szL_next {L : List RO} {q : Nat} {o : RO} (h : L[q]? = some o) : szL (L.take (q + 1)) = szL (L.take q) + (1 + o.ws.length) := by
  rw [take_next h, szL_app]
  rfl
theorem szL_next_le {L : List RO} {q : Nat} {o : RO} (h : L[q]? = some o) : szL (L.take q) + (1 + o.ws.length) ≤ szL L := by
  rw [← szL_next h]; exact szL_take
section regs
variable {w T : Nat} {ws : List Int} {os : List RO} {ms : List Nat}
theorem reg_pw (h : Ch ws 0 os T) (k : Nat) : (inR w k (lvs ms os)).Pairwise fun a b => a.i + 1 + a.ws.length ≤ b.i := (h.pw.filter _).filter _
theorem reg_obj (h : Ch ws 0 os T) {k q : Nat} {o : RO} (hq : (inR w k (lvs ms os))[q]? = some o) :
    ∃ j : Nat, os[j]? = some o ∧ lvB ms o = true ∧ goI ms os j = fstI w (lvs ms os) k + szL ((inR w k (lvs ms os)).take q) := by
  obtain ⟨j, hj, hl, rfl⟩ := inR_os hq
  refine ⟨j, hj, hl, ?_⟩
  obtain ⟨B, hB, hb, hgo⟩ := inR_split (w := w) h hj hl
  have hA : (inR w (o.i / w) (lvs ms os))[(inR w (o.i / w) (lvs ms (os.take j))).length]? = some o := by
    rw [hB, List.getElem?_append_right (Nat.le_refl _), Nat.sub_self]; rfl
  have hpw := reg_pw (w := w) (ms := ms) h (o.i / w)
  have e : q = (inR w (o.i / w) (lvs ms (os.take j))).length := by
    rcases Nat.lt_trichotomy q (inR w (o.i / w) (lvs ms (os.take j))).length with e | e | e
    · have := pw_at hpw hq hA e; omega
    · exact e
    · have := pw_at hpw hA hq e; omega
  rw [hgo, hB, e, List.take_append_of_le_length (Nat.le_refl _), List.take_length]
theorem fst_next (L : List RO) (k : Nat) : fstI w L (k + 1) = fstI w L k + lvI w L k := by
  show szL (befR w (k + 1) L) = szL (befR w k L) + szL (inR w k L)
  rw [befR_next, Nat.add_comm]
theorem fst_le (L : List RO) {k k' : Nat} (h : k ≤ k') : fstI w L k ≤ fstI w L k' := by
  induction k' with
  | zero => obtain rfl : k = 0 := by omega
            exact Nat.le_refl _
  | succ m ih =>
    rcases Nat.lt_or_ge m k with e | e
    · obtain rfl : k = m + 1 := by omega
      exact Nat.le_refl _
    · have := ih e
      rw [fst_next]
      omega
theorem fst_apart (L : List RO) {k k' : Nat} (h : k < k') : fstI w L k + lvI w L k ≤ fstI w L k' := by
  rw [← fst_next]; exact fst_le L h
theorem fst_find (L : List RO) {x : Nat} : ∀ {k : Nat}, x < fstI w L k → ∃ r, r < k ∧ fstI w L r ≤ x ∧ x < fstI w L r + lvI w L r
  | 0, h => by
    have : fstI w L 0 = 0 := by show szL (befR w 0 L) = 0; rw [befR_zero]; rfl
    omega
  | k + 1, h => by
    rw [fst_next] at h
    rcases Nat.lt_or_ge x (fstI w L k) with e | e
    · obtain ⟨r, h1, h2⟩ := fst_find L e
      exact ⟨r, by omega, h2⟩
    · exact ⟨k, Nat.lt_succ_self k, e, h⟩
theorem ext_in (h : Ch ws 0 os T) {k q : Nat} {o : RO} (hq : (inR w k (lvs ms os))[q]? = some o) : exA (inR w k (lvs ms os)) ≤ o.i ∧ o.i + 1 + o.ws.length ≤ exB (inR w k (lvs ms os)) := by
  have hpw := reg_pw (w := w) (ms := ms) h k
  generalize inR w k (lvs ms os) = B at hq hpw
  have hql := (List.getElem?_eq_some_iff.1 hq).1
  constructor
  · unfold exA
    rw [List.getElem?_eq_getElem (by omega)]
    show (B[0]).i ≤ o.i
    rcases Nat.eq_zero_or_pos q with e | e
    · subst e
      rw [List.getElem?_eq_getElem (by omega)] at hq
      injection hq with hq
      rw [hq]; exact Nat.le_refl _
    · have := pw_at hpw (List.getElem?_eq_getElem (i := 0) (by omega)) hq e
      omega
  · unfold exB
    rw [List.getElem?_eq_getElem (by omega)]
    show _ ≤ (B[B.length - 1]).i + 1 + (B[B.length - 1]).ws.length
    rcases Nat.lt_or_ge q (B.length - 1) with e | e
    · have := pw_at hpw hq (List.getElem?_eq_getElem (i := B.length - 1) (by omega)) e
      omega
    · obtain rfl : q = B.length - 1 := by omega
      rw [List.getElem?_eq_getElem (by omega)] at hq
      injection hq with hq
      rw [hq]; exact Nat.le_refl _
end regs
def fwI (ms : List Nat) (os : List RO) (z : Int) : Int := match os.findIdx? (fun o => decide ((o.i : Int) + 1 = z)) with
  | some j => (goI ms os j : Int) + 1
  | none => 0
theorem fwI_zero {ms : List Nat} {os : List RO} : fwI ms os 0 = 0 := by
  unfold fwI
  rw [show os.findIdx? (fun o => decide ((o.i : Int) + 1 = 0)) = none from by
    rw [List.findIdx?_eq_none_iff]
    intro o _
    exact decide_eq_false (by omega)]
theorem fwI_obj {ws : List Int} {T : Nat} {ms : List Nat} {os : List RO} (h : Ch ws 0 os T) {j : Nat} {o : RO} (hj : os[j]? = some o) : fwI ms os ((o.i : Int) + 1) = (goI ms os j : Int) + 1 := by
  unfold fwI
  have hjl := (List.getElem?_eq_some_iff.1 hj)
  obtain ⟨hjl, hje⟩ := hjl
  rw [show os.findIdx? (fun x => decide ((x.i : Int) + 1 = (o.i : Int) + 1)) = some j from by
    rw [List.findIdx?_eq_some_iff_getElem]
    refine ⟨hjl, decide_eq_true (by rw [hje]), fun m hm => ?_⟩
    have hml : m < os.length := by omega
    have := pw_at h.pw (List.getElem?_eq_getElem hml) hj hm
    intro hd
    have := of_decide_eq_true hd
    omega]
theorem fwI_of {ws : List Int} {T : Nat} {ms : List Nat} {os : List RO} (h : Ch ws 0 os T) {z z' : Int} (hf : fwdW ms os z z') : z' = fwI ms os z := by
  rcases hf with ⟨rfl, rfl⟩ | ⟨j, o, hj, hl, rfl, rfl⟩
  · exact fwI_zero.symm
  · exact (fwI_obj h hj).symm
def fwL (ms : List Nat) (os : List RO) (o : RO) : List Int := (List.range o.ws.length).map fun (t : Nat) => if (t : Int) < o.p then fwI ms os (o.ws.getD t 0) else o.ws.getD t 0
theorem fwL_len {ms : List Nat} {os : List RO} {o : RO} : (fwL ms os o).length = o.ws.length := by unfold fwL; simp
theorem fwL_at {ms : List Nat} {os : List RO} {o : RO} {t : Nat} {y : Int} (h : o.ws[t]? = some y) : (fwL ms os o)[t]? = some (if (t : Int) < o.p then fwI ms os y else y) := by
  have hl := (List.getElem?_eq_some_iff.1 h).1
  unfold fwL
  rw [List.getElem?_map, List.getElem?_range hl]
  show some (if (t : Int) < o.p then fwI ms os (o.ws.getD t 0) else o.ws.getD t 0) = _
  rw [List.getD_eq_getElem?_getD, h]
  rfl
def nwO (ms : List Nat) (os : List RO) (o : RO) : List Int := packI o.k o.ws.length o.p :: fwL ms os o
theorem nwO_len {ms : List Nat} {os : List RO} {o : RO} : (nwO ms os o).length = 1 + o.ws.length := by
  unfold nwO
  rw [List.length_cons, fwL_len, Nat.add_comm]
theorem nw_flat {ms : List Nat} {os : List RO} : ∀ {L : List RO}, (L.flatMap (nwO ms os)).length = szL L
  | [] => rfl
  | o :: r => by
    rw [List.flatMap_cons, List.length_append, nwO_len, nw_flat (L := r)]
    rfl
theorem nw_at {ms : List Nat} {os : List RO} {A B : List RO} {o : RO} {t : Nat} (ht : t < 1 + o.ws.length) : ((A ++ o :: B).flatMap (nwO ms os))[szL A + t]? = (nwO ms os o)[t]? := by
  rw [List.flatMap_append, List.flatMap_cons, List.getElem?_append_right (by rw [nw_flat]; omega), nw_flat, Nat.add_sub_cancel_left, List.getElem?_append_left (by rw [nwO_len]; exact ht)]
def NWI (T : Nat) (ws : List Int) (ms : List Nat) (os : List RO) : List Int := (lvs ms os).flatMap (nwO ms os) ++ (List.replicate (T - szL (lvs ms os)) 0 ++ ws.drop T)
theorem NWI_len {n T : Nat} {ws : List Int} {ms : List Nat} {os : List RO} (hc : Ch ws 0 os T) (hl : ws.length = n) (ht : T ≤ n) : (NWI T ws ms os).length = n := by
  unfold NWI
  have h1 := hc.sz
  have h2 : szL (lvs ms os) ≤ szL os := szL_filter
  rw [List.length_append, nw_flat, List.length_append, List.length_replicate, List.length_drop]
  omega
theorem NWI_obj {T : Nat} {ws : List Int} {ms : List Nat} {os : List RO} {j t : Nat} {o : RO} (hj : os[j]? = some o) (hl : lvB ms o = true) (ht : t < 1 + o.ws.length) : (NWI T ws ms os)[goI ms os j + t]? = (nwO ms os o)[t]? := by
  have eL : lvs ms os = lvs ms (os.take j) ++ o :: lvs ms (os.drop (j + 1)) := by
    conv => lhs; rw [split_at hj]
    unfold lvs
    rw [List.filter_append, List.filter_cons, if_pos hl]
  have hb : goI ms os j + t < szL (lvs ms os) := by
    rw [eL, szL_app]
    show szL (lvs ms (os.take j)) + t < szL (lvs ms (os.take j)) + (1 + o.ws.length + _)
    omega
  unfold NWI
  rw [List.getElem?_append_left (by rw [nw_flat]; exact hb)]
  rw [eL]
  exact nw_at ht
theorem NWI_zero {T : Nat} {ws : List Int} {ms : List Nat} {os : List RO} {x : Nat} (h1 : szL (lvs ms os) ≤ x) (h2 : x < T) : (NWI T ws ms os)[x]? = some 0 := by
  unfold NWI
  rw [List.getElem?_append_right (by rw [nw_flat]; exact h1), nw_flat, List.getElem?_append_left (by rw [List.length_replicate]; omega), List.getElem?_replicate, if_pos (by omega)]
theorem NWI_rest {T : Nat} {ws : List Int} {ms : List Nat} {os : List RO} {x : Nat} (hc : Ch ws 0 os T) (h : T ≤ x) : (NWI T ws ms os)[x]? = ws[x]? := by
  have h1 := hc.sz
  have h2 : szL (lvs ms os) ≤ szL os := szL_filter
  unfold NWI
  rw [List.getElem?_append_right (by rw [nw_flat]; omega), nw_flat, List.getElem?_append_right (by rw [List.length_replicate]; omega), List.length_replicate, List.getElem?_drop]
  congr 1
  omega
open Go.Sep
abbrev fnC : Nat := 128
abbrev fnR : Nat := 150
abbrev fnO : Nat := 168
abbrev fnF : Nat := 185
abbrev fnL : Nat := 195
abbrev fnA : Nat := 151
abbrev fnP : Nat := 170
abbrev fnZ : Nat := 187
abbrev fnX : Nat := 186
def partsI (T S : Nat) : Nat := (T - S + 15) / 16
def partE (T S c : Nat) : Nat := min (S + c * 16 + 16) T
def partL (T S c : Nat) : Nat := partE T S c - (S + c * 16)
def OnR (x : WX) (k : Nat) : Prop := (x.fn = fnR ∨ x.fn = fnO ∨ x.fn = fnF ∨ x.fn = fnL) ∧ x.region = k
def OnP (T S : Nat) (x : WX) (c : Nat) : Prop := x.fn = fnZ ∧ x.end_ = (partE T S c : Nat) ∧ c < partsI T S
def AllD (nR : Nat) (sts : List Int) : Prop := ∀ k, k < nR → sts[3 + k]? = some 1
def AhD (w : Nat) (L : List RO) (sts : List Int) (k : Nat) : Prop := ∀ r, r < k → ahB w L k r = true → sts[3 + r]? = some 1
theorem OnR.inj {x : WX} {k k' : Nat} (h : OnR x k) (h' : OnR x k') : k = k' := by have := h.2; have := h'.2; omega
theorem partE_inj {T S c c' : Nat} (h : c < partsI T S) (h' : c' < partsI T S) (e : partE T S c = partE T S c') : c = c' := by
  unfold partE partsI at *
  omega
theorem OnP.inj {T S : Nat} {x : WX} {c c' : Nat} (h : OnP T S x c) (h' : OnP T S x c') : c = c' := by
  have h1 := h.2.1; have h2 := h'.2.1
  exact partE_inj h.2.2 h'.2.2 (by omega)
structure Cur (ws : List Int) (os : List RO) (ms : List Nat) (w k q a : Nat) (x : WX) (o : RO) (j : Nat) : Prop where
  hq : (inR w k (lvs ms os))[q]? = some o
  hj : os[j]? = some o
  hl : lvB ms o = true
  go : goI ms os j = fstI w (lvs ms os) k + szL ((inR w k (lvs ms os)).take q)
  fr : x.from_ = o.i
  to : x.to = (goI ms os j : Nat)
  sz : x.size = 1 + (o.ws.length : Int)
  rf : x.refs = o.p
  at_ : x.at_ = a
  lt : a < 1 + o.ws.length
def olI (w k q : Nat) (L : List RO) : List Int := ((inR w k L).drop q).map fun o => (o.i : Int)
inductive WOk (T w nR : Nat) (ws : List Int) (os : List RO) (ms : List Nat) (sts : List Int) (C D : Nat) (Q A Z : Nat → Nat) (x : WX) : Prop
  | claim (h : x.fn = fnC)
  | ready (h : x.fn = fnR) (k : Nat) (hr : x.region = k) (hk : k < nR) (hC : k < C) (h0 : sts[3 + k]? = some 0) (hQ : Q k = 0) (hA : A k = 0) (ho : x.ol = olI w k 0 (lvs ms os)) (hl : x.wl.length ≤ k)
      (hb : ∀ r ∈ x.wl, ∃ r' : Nat, r = r' ∧ r' < k) (hd : ∀ r, r < k → ahB w (lvs ms os) k r = true → (r : Int) ∉ x.wl → sts[3 + r]? = some 1)
  | object (h : x.fn = fnO) (k : Nat) (hr : x.region = k) (hk : k < nR) (hC : k < C) (h0 : sts[3 + k]? = some 0) (hQ : Q k ≤ (inR w k (lvs ms os)).length) (hA : A k = 0) (ho : x.ol = olI w k (Q k) (lvs ms os)) (hd : AhD w (lvs ms os) sts k)
  | fetch (h : x.fn = fnF) (k : Nat) (hr : x.region = k) (hk : k < nR) (hC : k < C) (h0 : sts[3 + k]? = some 0) (ho : x.ol = olI w k (Q k + 1) (lvs ms os)) (hd : AhD w (lvs ms os) sts k) (o : RO) (j : Nat) (hc : Cur ws os ms w k (Q k) (A k) x o j)
  | lay (h : x.fn = fnL) (k : Nat) (hr : x.region = k) (hk : k < nR) (hC : k < C) (h0 : sts[3 + k]? = some 0) (ho : x.ol = olI w k (Q k + 1) (lvs ms os)) (hd : AhD w (lvs ms os) sts k) (o : RO) (j : Nat) (hc : Cur ws os ms w k (Q k) (A k) x o j) (hw : ws[o.i + A k]? = some x.word)
  | all (h : x.fn = fnA) (hC : nR < C) (a : Nat) (ha : x.at_ = a) (hn : a ≤ nR) (hd : ∀ k, k < a → sts[3 + k]? = some 1)
  | part (h : x.fn = fnP) (hd : AllD nR sts)
  | clear (h : x.fn = fnZ) (hd : AllD nR sts) (c : Nat) (hc : c < partsI T (szL (lvs ms os))) (hD : c < D) (he : x.end_ = (partE T (szL (lvs ms os)) c : Nat)) (ha : x.at_ = (szL (lvs ms os) + c * 16 + Z c : Nat))
  | rest (h : x.fn = fnX) (hd : AllD nR sts) (hD : partsI T (szL (lvs ms os)) < D)
section keep
variable {T w nR : Nat} {ws : List Int} {os : List RO} {ms : List Nat} {sts sts' : List Int} {C D C' D' : Nat} {Q A Z Q' A' Z' : Nat → Nat} {x : WX}
theorem AhD.mono {L : List RO} {k : Nat} (h : AhD w L sts k) (h1 : ∀ r, sts[3 + r]? = some 1 → sts'[3 + r]? = some 1) : AhD w L sts' k := fun r hr hb => h1 r (h r hr hb)
theorem AllD.mono (h : AllD nR sts) (h1 : ∀ r, sts[3 + r]? = some 1 → sts'[3 + r]? = some 1) : AllD nR sts' := fun k hk => h1 k (h k hk)
theorem Cur.of {k q a q' a' : Nat} {o : RO} {j : Nat} (h : Cur ws os ms w k q a x o j) (hq : q' = q) (ha : a' = a) : Cur ws os ms w k q' a' x o j := by subst hq ha; exact h
theorem WOk.keep (h : WOk T w nR ws os ms sts C D Q A Z x) (hC : C ≤ C') (hD : D ≤ D') (h1 : ∀ r, sts[3 + r]? = some 1 → sts'[3 + r]? = some 1)
    (hR : ∀ k, OnR x k → sts'[3 + k]? = sts[3 + k]? ∧ Q' k = Q k ∧ A' k = A k) (hP : ∀ c, OnP T (szL (lvs ms os)) x c → Z' c = Z c) : WOk T w nR ws os ms sts' C' D' Q' A' Z' x := by
  cases h with
  | claim h => exact .claim h
  | ready h k hr hk hC1 h0 hQ hA ho hl hb hd =>
    obtain ⟨e1, e2, e3⟩ := hR k ⟨.inl h, hr⟩
    exact .ready h k hr hk (by omega) (e1.trans h0) (e2.trans hQ) (e3.trans hA) ho hl hb fun r hr hb hn => h1 r (hd r hr hb hn)
  | object h k hr hk hC1 h0 hQ hA ho hd =>
    obtain ⟨e1, e2, e3⟩ := hR k ⟨.inr (.inl h), hr⟩
    exact .object h k hr hk (by omega) (e1.trans h0) (by rw [e2]; exact hQ) (e3.trans hA) (by rw [e2]; exact ho) (hd.mono h1)
  | fetch h k hr hk hC1 h0 ho hd o j hc =>
    obtain ⟨e1, e2, e3⟩ := hR k ⟨.inr (.inr (.inl h)), hr⟩
    exact .fetch h k hr hk (by omega) (e1.trans h0) (by rw [e2]; exact ho) (hd.mono h1) o j (hc.of e2 e3)
  | lay h k hr hk hC1 h0 ho hd o j hc hw =>
    obtain ⟨e1, e2, e3⟩ := hR k ⟨.inr (.inr (.inr h)), hr⟩
    exact .lay h k hr hk (by omega) (e1.trans h0) (by rw [e2]; exact ho) (hd.mono h1) o j (hc.of e2 e3) (by rw [e3]; exact hw)
  | all h hC1 a ha hn hd => exact .all h (by omega) a ha hn fun k hk => h1 k (hd k hk)
  | part h hd => exact .part h (hd.mono h1)
  | clear h hd c hc hD1 he ha => exact .clear h (hd.mono h1) c hc (by omega) he (by rw [hP c ⟨h, he, hc⟩]; exact ha)
  | rest h hd hD1 => exact .rest h (hd.mono h1) (by omega)
theorem WOk.onR (h : WOk T w nR ws os ms sts C D Q A Z x) {k : Nat} (hk : OnR x k) : k < nR ∧ k < C ∧ sts[3 + k]? = some 0 := by
  obtain ⟨hf, hr⟩ := hk
  cases h with
  | claim h => rw [h] at hf; exact absurd hf (by decide)
  | ready h k' hr' hk hC1 h0 hQ hA ho hl hb hd => obtain rfl : k' = k := by omega
                                                  exact ⟨hk, hC1, h0⟩
  | object h k' hr' hk hC1 h0 hQ hA ho hd => obtain rfl : k' = k := by omega
                                             exact ⟨hk, hC1, h0⟩
  | fetch h k' hr' hk hC1 h0 ho hd o j hc => obtain rfl : k' = k := by omega
                                             exact ⟨hk, hC1, h0⟩
  | lay h k' hr' hk hC1 h0 ho hd o j hc hw => obtain rfl : k' = k := by omega
                                              exact ⟨hk, hC1, h0⟩
  | all h hC1 a ha hn hd => rw [h] at hf; exact absurd hf (by decide)
  | part h hd => rw [h] at hf; exact absurd hf (by decide)
  | clear h hd c hc hD1 he ha => rw [h] at hf; exact absurd hf (by decide)
  | rest h hd hD1 => rw [h] at hf; exact absurd hf (by decide)
theorem WOk.onP (h : WOk T w nR ws os ms sts C D Q A Z x) {c : Nat} (hk : OnP T (szL (lvs ms os)) x c) : c < D ∧ AllD nR sts ∧ x.at_ = (szL (lvs ms os) + c * 16 + Z c : Nat) := by
  obtain ⟨hf, hr, hc⟩ := hk
  cases h with
  | clear h hd c' hc' hD1 he ha =>
    obtain rfl : c' = c := partE_inj hc' hc (by omega)
    exact ⟨hD1, hd, ha⟩
  | claim h => rw [h] at hf; exact absurd hf (by decide)
  | ready h => rw [h] at hf; exact absurd hf (by decide)
  | object h => rw [h] at hf; exact absurd hf (by decide)
  | fetch h => rw [h] at hf; exact absurd hf (by decide)
  | lay h => rw [h] at hf; exact absurd hf (by decide)
  | all h => rw [h] at hf; exact absurd hf (by decide)
  | part h => rw [h] at hf; exact absurd hf (by decide)
  | rest h => rw [h] at hf; exact absurd hf (by decide)
end keep
def prI (w : Nat) (L : List RO) (Q A : Nat → Nat) (k : Nat) : Nat := szL ((inR w k L).take (Q k)) + A k
def WrI (T w nR : Nat) (L : List RO) (Q A Z : Nat → Nat) (x : Nat) : Prop :=
  (∃ k, k < nR ∧ fstI w L k ≤ x ∧ x < fstI w L k + prI w L Q A k) ∨ ∃ c, c < partsI T (szL L) ∧ szL L + c * 16 ≤ x ∧ x < szL L + c * 16 + Z c
def isZ (x : WX) : Bool := decide (x.fn = fnZ)
structure SI (n T w nR : Nat) (ws : List Int) (os : List RO) (ms : List Nat) (xs : List WX) (sts wds : List Int) (mv : Int) (C D : Nat) (Q A Z : Nat → Nat) : Prop where
  who : ∀ (j : Nat) (x : WX), xs[j]? = some x → x.who = j
  sl : sts.length = 3 + nR
  s0 : sts[0]? = some (C : Int)
  s1 : sts[1]? = some (D : Int)
  s2 : ∃ E : Nat, sts[2]? = some (E : Int) ∧ E + xs.countP isZ = min D (partsI T (szL (lvs ms os)))
  d01 : ∀ (k : Nat), k < nR → sts[3 + k]? = some 0 ∨ sts[3 + k]? = some 1
  wl : wds.length = n
  wv : ∀ x, (WrI T w nR (lvs ms os) Q A Z x → wds[x]? = (NWI T ws ms os)[x]?) ∧ (¬ WrI T w nR (lvs ms os) Q A Z x → wds[x]? = ws[x]?)
  mq : mv = (((List.range nR).map Q).sum : Nat)
  fr : ∀ k, C ≤ k → Q k = 0 ∧ A k = 0 ∧ (k < nR → sts[3 + k]? = some 0)
  ow : ∀ k, k < nR → k < C → sts[3 + k]? = some 0 → ∃ (j : Nat) (x : WX), xs[j]? = some x ∧ OnR x k
  fu : ∀ k, k < nR → sts[3 + k]? = some 1 → Q k = (inR w k (lvs ms os)).length ∧ A k = 0
  uR : ∀ (j j' : Nat) (x x' : WX) (k : Nat), xs[j]? = some x → xs[j']? = some x' → OnR x k → OnR x' k → j = j'
  ah : ∀ k, k < nR → 0 < Q k + A k → AhD w (lvs ms os) sts k
  zf : ∀ c, D ≤ c → Z c = 0
  zo : ∀ c, c < partsI T (szL (lvs ms os)) → c < D → Z c = partL T (szL (lvs ms os)) c ∨ ∃ (j : Nat) (x : WX), xs[j]? = some x ∧ OnP T (szL (lvs ms os)) x c
  zl : ∀ c, Z c ≤ partL T (szL (lvs ms os)) c
  uP : ∀ (j j' : Nat) (x x' : WX) (c : Nat), xs[j]? = some x → xs[j']? = some x' → OnP T (szL (lvs ms os)) x c → OnP T (szL (lvs ms os)) x' c → j = j'
  za : ∀ c, 0 < Z c → AllD nR sts
  wk : ∀ (j : Nat) (x : WX), xs[j]? = some x → WOk T w nR ws os ms sts C D Q A Z x
theorem set_cases {α : Type} {xs : List α} {j i : Nat} {x' y : α} (h : (xs.set j x')[i]? = some y) : (i = j ∧ y = x') ∨ (i ≠ j ∧ xs[i]? = some y) := by
  rw [List.getElem?_set] at h
  by_cases e : j = i
  · rw [if_pos e] at h
    split at h
    · injection h with h; exact .inl ⟨e.symm, h.symm⟩
    · cases h
  · rw [if_neg e] at h
    exact .inr ⟨fun e2 => e e2.symm, h⟩
theorem set_hit {α : Type} {xs : List α} {j : Nat} {x x' : α} (h : xs[j]? = some x) : (xs.set j x')[j]? = some x' := by
  have := (List.getElem?_eq_some_iff.1 h).1
  rw [List.getElem?_set, if_pos rfl, if_pos this]
section step
variable {n T w nR : Nat} {ws : List Int} {os : List RO} {ms : List Nat} {xs : List WX} {sts wds sts' wds' : List Int} {mv mv' : Int} {C D C' D' : Nat} {Q A Z Q' A' Z' : Nat → Nat} {j : Nat} {x : WX}
theorem SI.upd (h : SI n T w nR ws os ms xs sts wds mv C D Q A Z) (hj : xs[j]? = some x) (x' : WX) (hw : x'.who = x.who) (sl : sts'.length = 3 + nR) (s0 : sts'[0]? = some (C' : Int)) (s1 : sts'[1]? = some (D' : Int))
    (s2 : ∃ E : Nat, sts'[2]? = some (E : Int) ∧ E + (xs.set j x').countP isZ = min D' (partsI T (szL (lvs ms os)))) (hC : C ≤ C') (hD : D ≤ D') (d1 : ∀ r, sts[3 + r]? = some 1 → sts'[3 + r]? = some 1)
    (d01 : ∀ k, k < nR → OnR x k → sts'[3 + k]? = some 0 ∨ sts'[3 + k]? = some 1) (hR : ∀ k, OnR x k ∨ (sts'[3 + k]? = sts[3 + k]? ∧ Q' k = Q k ∧ A' k = A k)) (hP : ∀ c, OnP T (szL (lvs ms os)) x c ∨ Z' c = Z c)
    (wl : wds'.length = n) (wv : ∀ x, (WrI T w nR (lvs ms os) Q' A' Z' x → wds'[x]? = (NWI T ws ms os)[x]?) ∧ (¬ WrI T w nR (lvs ms os) Q' A' Z' x → wds'[x]? = ws[x]?)) (mq : mv' = (((List.range nR).map Q').sum : Nat))
    (nR1 : ∀ k, OnR x' k → OnR x k ∨ C ≤ k) (oR : ∀ k, OnR x k → OnR x' k ∨ sts'[3 + k]? ≠ some 0) (oC : ∀ k, k < nR → C ≤ k → k < C' → OnR x' k)
    (fu : ∀ k, OnR x k → sts'[3 + k]? = some 1 → Q' k = (inR w k (lvs ms os)).length ∧ A' k = 0) (ah : ∀ k, OnR x k → 0 < Q' k + A' k → AhD w (lvs ms os) sts' k)
    (nP1 : ∀ c, OnP T (szL (lvs ms os)) x' c → OnP T (szL (lvs ms os)) x c ∨ D ≤ c) (oP : ∀ c, OnP T (szL (lvs ms os)) x c → OnP T (szL (lvs ms os)) x' c ∨ Z' c = partL T (szL (lvs ms os)) c)
    (oD : ∀ c, c < partsI T (szL (lvs ms os)) → D ≤ c → c < D' → OnP T (szL (lvs ms os)) x' c) (zl : ∀ c, OnP T (szL (lvs ms os)) x c → Z' c ≤ partL T (szL (lvs ms os)) c)
    (wk : WOk T w nR ws os ms sts' C' D' Q' A' Z' x') : SI n T w nR ws os ms (xs.set j x') sts' wds' mv' C' D' Q' A' Z' := by
  have hx := h.wk j x hj
  have hoth : ∀ i y, i ≠ j → xs[i]? = some y → WOk T w nR ws os ms sts' C' D' Q' A' Z' y := by
    intro i y hne hi
    refine (h.wk i y hi).keep hC hD d1 (fun k hk => ?_) fun c hc => ?_
    · rcases hR k with e | e
      · exact absurd (h.uR _ _ _ _ _ hi hj hk e) hne
      · exact e
    · rcases hP c with e | e
      · exact absurd (h.uP _ _ _ _ _ hi hj hc e) hne
      · exact e
  refine ⟨fun i y hi => ?_, sl, s0, s1, s2, fun k hk => ?_, wl, wv, mq, fun k hk => ?_, fun k hk hkC h0 => ?_, fun k hk h1 => ?_, fun i i' y y' k hi hi' hk hk' => ?_, fun k hk h0 => ?_, fun c hc => ?_, fun c hcP hcD => ?_, fun c => ?_, fun i i' y y' c hi hi' hk hk' => ?_, fun c hc => ?_, fun i y hi => ?_⟩
  · rcases set_cases hi with ⟨rfl, rfl⟩ | ⟨_, hi⟩
    · exact hw.trans (h.who _ _ hj)
    · exact h.who _ _ hi
  · rcases hR k with e | e
    · exact d01 k hk e
    · rw [e.1]; exact h.d01 k hk
  · obtain ⟨f1, f2, f3⟩ := h.fr k (by omega)
    rcases hR k with e | ⟨e1, e2, e3⟩
    · have := (hx.onR e).2.1; omega
    · exact ⟨e2.trans f1, e3.trans f2, fun hk2 => e1.trans (f3 hk2)⟩
  · by_cases hkC2 : k < C
    · rcases hR k with e | ⟨e1, _, _⟩
      · rcases oR k e with e2 | e2
        · exact ⟨j, x', set_hit hj, e2⟩
        · exact absurd h0 e2
      · obtain ⟨i, y, hi, hy⟩ := h.ow k hk hkC2 (e1 ▸ h0)
        by_cases hij : i = j
        · subst hij
          rw [hj] at hi; injection hi with hi; subst hi
          rcases oR k hy with e2 | e2
          · exact ⟨i, x', set_hit hj, e2⟩
          · exact absurd h0 e2
        · exact ⟨i, y, by rw [List.getElem?_set_ne (Ne.symm hij)]; exact hi, hy⟩
    · exact ⟨j, x', set_hit hj, oC k hk (by omega) hkC⟩
  · rcases hR k with e | ⟨e1, e2, e3⟩
    · exact fu k e h1
    · obtain ⟨f1, f2⟩ := h.fu k hk (e1 ▸ h1)
      exact ⟨e2.trans f1, e3.trans f2⟩
  · have key : ∀ i y, i ≠ j → xs[i]? = some y → OnR y k → OnR x' k → False := by
      intro i y hne hi hy hx'
      rcases nR1 k hx' with e | e
      · exact hne (h.uR _ _ _ _ _ hi hj hy e)
      · have := ((h.wk i y hi).onR hy).2.1; omega
    rcases set_cases hi with ⟨rfl, rfl⟩ | ⟨hne, hi2⟩
    · rcases set_cases hi' with ⟨rfl, rfl⟩ | ⟨hne', hi3⟩
      · rfl
      · exact (key _ _ hne' hi3 hk' hk).elim
    · rcases set_cases hi' with ⟨rfl, rfl⟩ | ⟨hne', hi3⟩
      · exact (key _ _ hne hi2 hk hk').elim
      · exact h.uR _ _ _ _ _ hi2 hi3 hk hk'
  · rcases hR k with e | ⟨e1, e2, e3⟩
    · exact ah k e h0
    · exact (h.ah k hk (by omega)).mono d1
  · rcases hP c with e | e
    · have := (hx.onP e).1; omega
    · exact e.trans (h.zf c (by omega))
  · by_cases hcD2 : c < D
    · rcases hP c with e | e
      · rcases oP c e with e2 | e2
        · exact .inr ⟨j, x', set_hit hj, e2⟩
        · exact .inl e2
      · rcases h.zo c hcP hcD2 with e2 | ⟨i, y, hi, hy⟩
        · exact .inl (e.trans e2)
        · by_cases hij : i = j
          · subst hij
            rw [hj] at hi; injection hi with hi; subst hi
            rcases oP c hy with e2 | e2
            · exact .inr ⟨i, x', set_hit hj, e2⟩
            · exact .inl e2
          · exact .inr ⟨i, y, by rw [List.getElem?_set_ne (Ne.symm hij)]; exact hi, hy⟩
    · exact .inr ⟨j, x', set_hit hj, oD c hcP (by omega) hcD⟩
  · rcases hP c with e | e
    · exact zl c e
    · rw [e]; exact h.zl c
  · have key : ∀ i y, i ≠ j → xs[i]? = some y → OnP T (szL (lvs ms os)) y c → OnP T (szL (lvs ms os)) x' c → False := by
      intro i y hne hi hy hx'
      rcases nP1 c hx' with e | e
      · exact hne (h.uP _ _ _ _ _ hi hj hy e)
      · have := ((h.wk i y hi).onP hy).1; omega
    rcases set_cases hi with ⟨rfl, rfl⟩ | ⟨hne, hi2⟩
    · rcases set_cases hi' with ⟨rfl, rfl⟩ | ⟨hne', hi3⟩
      · rfl
      · exact (key _ _ hne' hi3 hk' hk).elim
    · rcases set_cases hi' with ⟨rfl, rfl⟩ | ⟨hne', hi3⟩
      · exact (key _ _ hne hi2 hk hk').elim
      · exact h.uP _ _ _ _ _ hi2 hi3 hk hk'
  · rcases hP c with e | e
    · exact (hx.onP e).2.1.mono d1
    · exact (h.za c (by omega)).mono d1
  · rcases set_cases hi with ⟨rfl, rfl⟩ | ⟨hne, hi⟩
    · exact wk
    · exact hoth _ _ hne hi
end step
open Go.Sep
theorem countP_set {α : Type} {p : α → Bool} {xs : List α} {j : Nat} {x x' : α} (h : xs[j]? = some x) : (xs.set j x').countP p + (if p x then 1 else 0) = xs.countP p + (if p x' then 1 else 0) := by
  have h1 := (permM_at h).countP_eq p
  have h2 := (permM_put (r' := x') (List.getElem?_eq_some_iff.1 h).1).countP_eq p
  rw [List.countP_cons] at h1 h2
  omega
theorem not_R {x : WX} {f : Nat} (h : x.fn = f) (hf : ¬ (f = fnR ∨ f = fnO ∨ f = fnF ∨ f = fnL)) (k : Nat) : ¬ OnR x k := fun h2 => hf (h ▸ h2.1)
theorem not_P {T S : Nat} {x : WX} {f : Nat} (h : x.fn = f) (hf : f ≠ fnZ) (c : Nat) : ¬ OnP T S x c := fun h2 => hf (h.symm.trans h2.1)
theorem isZ_no {x : WX} {f : Nat} (h : x.fn = f) (hf : f ≠ fnZ) : isZ x = false := decide_eq_false (by rw [h]; exact hf)
theorem isZ_yes {x : WX} (h : x.fn = fnZ) : isZ x = true := decide_eq_true h
theorem mem_ahL {w : Nat} {L : List RO} {k n r : Nat} : (r : Int) ∈ ahL w L k n ↔ r < n ∧ ahB w L k r = true := by
  unfold ahL
  rw [List.mem_map]
  constructor
  · rintro ⟨r', h, e⟩
    obtain rfl : r' = r := by omega
    obtain ⟨h1, h2⟩ := List.mem_filter.1 h
    exact ⟨List.mem_range.1 h1, h2⟩
  · exact fun ⟨h1, h2⟩ => ⟨r, List.mem_filter.2 ⟨List.mem_range.2 h1, h2⟩, rfl⟩
def updN (f : Nat → Nat) (k v : Nat) : Nat → Nat := fun i => if i = k then v else f i
theorem updN_hit {f : Nat → Nat} {k v : Nat} : updN f k v k = v := if_pos rfl
theorem updN_ne {f : Nat → Nat} {k v i : Nat} (h : i ≠ k) : updN f k v i = f i := if_neg h
theorem updN_sum {f : Nat → Nat} {k : Nat} : ∀ {n : Nat}, k < n → ((List.range n).map (updN f k (f k + 1))).sum = ((List.range n).map f).sum + 1
  | 0, h => absurd h (Nat.not_lt_zero _)
  | n + 1, h => by
    rw [List.range_succ, List.map_append, List.map_append, List.sum_append, List.sum_append]
    rcases Nat.lt_or_ge k n with e | e
    · rw [updN_sum e]
      simp only [List.map_cons, List.map_nil, List.sum_cons, List.sum_nil]
      rw [updN_ne (by omega)]
      omega
    · obtain rfl : k = n := by omega
      have : (List.range k).map (updN f k (f k + 1)) = (List.range k).map f := List.map_congr_left fun i hi => updN_ne (by have := List.mem_range.1 hi; omega)
      rw [this]
      simp only [List.map_cons, List.map_nil, List.sum_cons, List.sum_nil]
      rw [updN_hit]
      omega
section step
variable {n T w nR : Nat} {ws : List Int} {os : List RO} {ms : List Nat} {xs : List WX} {sts wds : List Int} {mv : Int} {C D : Nat} {Q A Z : Nat → Nat} {j : Nat} {x : WX}
theorem set3 {v : Int} {i k : Nat} (hi : i < 3) : (sts.set i v)[3 + k]? = sts[3 + k]? := List.getElem?_set_ne (by omega)
theorem SI.quiet (h : SI n T w nR ws os ms xs sts wds mv C D Q A Z) (hj : xs[j]? = some x) (x' : WX) (hw : x'.who = x.who) (hz : isZ x' = isZ x) (hR : ∀ k, OnR x' k ↔ OnR x k) (hP : ∀ c, OnP T (szL (lvs ms os)) x' c ↔ OnP T (szL (lvs ms os)) x c)
    (wk : WOk T w nR ws os ms sts C D Q A Z x') : SI n T w nR ws os ms (xs.set j x') sts wds mv C D Q A Z := by
  have hx := h.wk j x hj
  obtain ⟨E, e1, e2⟩ := h.s2
  refine h.upd hj x' hw h.sl h.s0 h.s1 ⟨E, e1, ?_⟩ (Nat.le_refl _) (Nat.le_refl _) (fun _ h => h) (fun k hk _ => h.d01 k hk) (fun k => .inr ⟨rfl, rfl, rfl⟩) (fun c => .inr rfl) h.wl h.wv h.mq (fun k hk => .inl ((hR k).1 hk)) (fun k hk => .inl ((hR k).2 hk))
    (fun k _ h1 h2 => by omega) (fun k hk h1 => h.fu k (hx.onR hk).1 h1) (fun k hk h0 => h.ah k (hx.onR hk).1 h0) (fun c hc => .inl ((hP c).1 hc)) (fun c hc => .inl ((hP c).2 hc)) (fun c _ h1 h2 => by omega) (fun c _ => h.zl c) wk
  have := countP_set (p := isZ) (x' := x') hj
  rw [hz] at this
  omega
theorem SI.claim_next (h : SI n T w nR ws os ms xs sts wds mv C D Q A Z) (hj : xs[j]? = some x) (hf : x.fn = fnC) (hC : C < nR) (wa' oa' : Option Addr) (wc' oc' : Nat) :
    SI n T w nR ws os ms (xs.set j { x with region := C, fn := fnR, wa := wa', wl := ahL w (lvs ms os) C C, wc := wc', oa := oa', ol := stI w C (lvs ms os), oc := oc' }) (sts.set 0 (C + 1)) wds mv (C + 1) D Q A Z := by
  have hsl := h.sl
  obtain ⟨E, e1, e2⟩ := h.s2
  obtain ⟨f1, f2, f3⟩ := h.fr C (Nat.le_refl _)
  generalize hx' : ({ x with region := (C : Int), fn := fnR, wa := wa', wl := ahL w (lvs ms os) C C, wc := wc', oa := oa', ol := stI w C (lvs ms os), oc := oc' } : WX) = x'
  have hfn : x'.fn = fnR := by rw [← hx']
  have hrg : x'.region = C := by rw [← hx']
  refine h.upd hj x' (by rw [← hx']) (by simp [hsl]) (by rw [List.getElem?_set, if_pos rfl, if_pos (by omega)]; rfl) (by rw [List.getElem?_set_ne (by decide)]; exact h.s1) ⟨E, by rw [List.getElem?_set_ne (by decide)]; exact e1, ?_⟩ (by omega) (Nat.le_refl _)
    (fun r h1 => by rw [set3 (by decide)]; exact h1) (fun k hk _ => by rw [set3 (by decide)]; exact h.d01 k hk) (fun k => .inr ⟨set3 (by decide), rfl, rfl⟩) (fun c => .inr rfl) h.wl h.wv h.mq (fun k hk => .inr (by have := hk.2; omega)) (fun k hk => absurd hk (not_R hf (by decide) k))
    (fun k _ h1 h2 => ⟨.inl hfn, by rw [hrg]; omega⟩) (fun k hk => absurd hk (not_R hf (by decide) k)) (fun k hk => absurd hk (not_R hf (by decide) k)) (fun c hc => absurd hc (not_P hfn (by decide) c)) (fun c hc => absurd hc (not_P hf (by decide) c)) (fun c _ h1 h2 => by omega) (fun c _ => h.zl c) ?_
  · have := countP_set (p := isZ) (x' := x') hj
    rw [isZ_no hf (by decide), isZ_no hfn (by decide)] at this
    omega
  · refine .ready hfn C hrg hC (Nat.lt_succ_self C) (by rw [set3 (by decide)]; exact f3 hC) f1 f2 (by rw [← hx']; rfl) (by rw [← hx']; exact ahL_len) (fun r hr => ?_) (fun r hr hb hn => ?_)
    · rw [← hx'] at hr
      have hr : r ∈ ahL w (lvs ms os) C C := hr
      unfold ahL at hr
      obtain ⟨r', h1, rfl⟩ := List.mem_map.1 hr
      exact ⟨r', rfl, List.mem_range.1 (List.mem_filter.1 h1).1⟩
    · rw [← hx'] at hn
      exact absurd (mem_ahL.2 ⟨hr, hb⟩) hn
theorem SI.claim_end (h : SI n T w nR ws os ms xs sts wds mv C D Q A Z) (hj : xs[j]? = some x) (hf : x.fn = fnC) (hC : nR ≤ C) :
    SI n T w nR ws os ms (xs.set j { x with region := C, at_ := 0, fn := fnA }) (sts.set 0 (C + 1)) wds mv (C + 1) D Q A Z := by
  have hsl := h.sl
  obtain ⟨E, e1, e2⟩ := h.s2
  generalize hx' : ({ x with region := (C : Int), at_ := 0, fn := fnA } : WX) = x'
  have hfn : x'.fn = fnA := by rw [← hx']
  refine h.upd hj x' (by rw [← hx']) (by simp [hsl]) (by rw [List.getElem?_set, if_pos rfl, if_pos (by omega)]; rfl) (by rw [List.getElem?_set_ne (by decide)]; exact h.s1) ⟨E, by rw [List.getElem?_set_ne (by decide)]; exact e1, ?_⟩ (by omega) (Nat.le_refl _)
    (fun r h1 => by rw [set3 (by decide)]; exact h1) (fun k hk _ => by rw [set3 (by decide)]; exact h.d01 k hk) (fun k => .inr ⟨set3 (by decide), rfl, rfl⟩) (fun c => .inr rfl) h.wl h.wv h.mq (fun k hk => absurd hk (not_R hfn (by decide) k)) (fun k hk => absurd hk (not_R hf (by decide) k))
    (fun k h0 h1 h2 => by omega) (fun k hk => absurd hk (not_R hf (by decide) k)) (fun k hk => absurd hk (not_R hf (by decide) k)) (fun c hc => absurd hc (not_P hfn (by decide) c)) (fun c hc => absurd hc (not_P hf (by decide) c)) (fun c _ h1 h2 => by omega) (fun c _ => h.zl c) ?_
  · have := countP_set (p := isZ) (x' := x') hj
    rw [isZ_no hf (by decide), isZ_no hfn (by decide)] at this
    omega
  · exact .all hfn (by omega) 0 (by rw [← hx']; rfl) (Nat.zero_le _) fun k hk => absurd hk (Nat.not_lt_zero _)
theorem SI.ready_wait (h : SI n T w nR ws os ms xs sts wds mv C D Q A Z) (hj : xs[j]? = some x) (hf : x.fn = fnR) {r : Nat} {rest : List Int} (hl : x.wl = (r : Int) :: rest) (hr : sts[3 + r]? = some 1) (wa' : Option Addr) (wc' : Nat) :
    SI n T w nR ws os ms (xs.set j { x with wa := wa', wl := rest, wc := wc' }) sts wds mv C D Q A Z := by
  have hx := h.wk j x hj
  generalize hx' : ({ x with wa := wa', wl := rest, wc := wc' } : WX) = x'
  have hfn : x'.fn = x.fn := by rw [← hx']
  refine h.quiet hj x' (by rw [← hx']) (by rw [isZ_no hf (by decide), isZ_no (hfn.trans hf) (by decide)]) (fun k => ?_) (fun c => ⟨fun hc => absurd hc (not_P (hfn.trans hf) (by decide) c), fun hc => absurd hc (not_P hf (by decide) c)⟩) ?_
  · unfold OnR
    rw [hfn, ← hx']
  · cases hx with
    | ready _ k hrg hk hC h0 hQ hA ho hlen hb hd =>
      refine .ready (hfn.trans hf) k (by rw [← hx']; exact hrg) hk hC h0 hQ hA (by rw [← hx']; exact ho) ?_ (fun y hy => ?_) (fun y hy hyb hn => ?_)
      · rw [← hx']
        rw [hl] at hlen
        exact Nat.le_of_succ_le hlen
      · rw [← hx'] at hy
        exact hb y (by rw [hl]; exact .tail _ hy)
      · rw [← hx'] at hn
        by_cases e : y = r
        · rw [e]; exact hr
        · refine hd y hy hyb ?_
          rw [hl]
          intro hm
          rcases List.mem_cons.1 hm with e2 | e2
          · exact e (by omega)
          · exact hn e2
    | claim h2 => rw [hf] at h2; exact absurd h2 (by decide)
    | object h2 => rw [hf] at h2; exact absurd h2 (by decide)
    | fetch h2 => rw [hf] at h2; exact absurd h2 (by decide)
    | lay h2 => rw [hf] at h2; exact absurd h2 (by decide)
    | all h2 => rw [hf] at h2; exact absurd h2 (by decide)
    | part h2 => rw [hf] at h2; exact absurd h2 (by decide)
    | clear h2 => rw [hf] at h2; exact absurd h2 (by decide)
    | rest h2 => rw [hf] at h2; exact absurd h2 (by decide)
theorem SI.ready_go (h : SI n T w nR ws os ms xs sts wds mv C D Q A Z) (hj : xs[j]? = some x) (hf : x.fn = fnR) (hl : x.wl = []) :
    SI n T w nR ws os ms (xs.set j { x with fn := fnO }) sts wds mv C D Q A Z := by
  have hx := h.wk j x hj
  generalize hx' : ({ x with fn := fnO } : WX) = x'
  have hfn : x'.fn = fnO := by rw [← hx']
  refine h.quiet hj x' (by rw [← hx']) (by rw [isZ_no hf (by decide), isZ_no hfn (by decide)]) (fun k => ?_) (fun c => ⟨fun hc => absurd hc (not_P hfn (by decide) c), fun hc => absurd hc (not_P hf (by decide) c)⟩) ?_
  · unfold OnR
    rw [hfn, hf, ← hx']
    simp
  · cases hx with
    | ready _ k hrg hk hC h0 hQ hA ho hlen hb hd =>
      exact .object hfn k (by rw [← hx']; exact hrg) hk hC h0 (by rw [hQ]; exact Nat.zero_le _) hA (by rw [← hx', hQ]; exact ho) fun r hr hrb => hd r hr hrb (by rw [hl]; exact List.not_mem_nil)
    | claim h2 => rw [hf] at h2; exact absurd h2 (by decide)
    | object h2 => rw [hf] at h2; exact absurd h2 (by decide)
    | fetch h2 => rw [hf] at h2; exact absurd h2 (by decide)
    | lay h2 => rw [hf] at h2; exact absurd h2 (by decide)
    | all h2 => rw [hf] at h2; exact absurd h2 (by decide)
    | part h2 => rw [hf] at h2; exact absurd h2 (by decide)
    | clear h2 => rw [hf] at h2; exact absurd h2 (by decide)
    | rest h2 => rw [hf] at h2; exact absurd h2 (by decide)
end step
open Go.Sep
section inv
variable {T w nR : Nat} {ws : List Int} {os : List RO} {ms : List Nat} {sts : List Int} {C D : Nat} {Q A Z : Nat → Nat} {x : WX}
theorem WOk.object_inv (h : WOk T w nR ws os ms sts C D Q A Z x) (hf : x.fn = fnO) : ∃ k : Nat, x.region = k ∧ k < nR ∧ k < C ∧ sts[3 + k]? = some 0 ∧ Q k ≤ (inR w k (lvs ms os)).length ∧ A k = 0 ∧ x.ol = olI w k (Q k) (lvs ms os) ∧ AhD w (lvs ms os) sts k := by
  cases h with
    | object h k hr hk hC h0 hQ hA ho hd => exact ⟨k, hr, hk, hC, h0, hQ, hA, ho, hd⟩
    | claim h2 => rw [hf] at h2; exact absurd h2 (by decide)
    | ready h2 => rw [hf] at h2; exact absurd h2 (by decide)
    | fetch h2 => rw [hf] at h2; exact absurd h2 (by decide)
    | lay h2 => rw [hf] at h2; exact absurd h2 (by decide)
    | all h2 => rw [hf] at h2; exact absurd h2 (by decide)
    | part h2 => rw [hf] at h2; exact absurd h2 (by decide)
    | clear h2 => rw [hf] at h2; exact absurd h2 (by decide)
    | rest h2 => rw [hf] at h2; exact absurd h2 (by decide)
theorem WOk.fetch_inv (h : WOk T w nR ws os ms sts C D Q A Z x) (hf : x.fn = fnF) : ∃ k : Nat, x.region = k ∧ k < nR ∧ k < C ∧ sts[3 + k]? = some 0 ∧ x.ol = olI w k (Q k + 1) (lvs ms os) ∧ AhD w (lvs ms os) sts k ∧ ∃ (o : RO) (j : Nat), Cur ws os ms w k (Q k) (A k) x o j := by
  cases h with
    | fetch h k hr hk hC h0 ho hd o j hc => exact ⟨k, hr, hk, hC, h0, ho, hd, o, j, hc⟩
    | claim h2 => rw [hf] at h2; exact absurd h2 (by decide)
    | ready h2 => rw [hf] at h2; exact absurd h2 (by decide)
    | object h2 => rw [hf] at h2; exact absurd h2 (by decide)
    | lay h2 => rw [hf] at h2; exact absurd h2 (by decide)
    | all h2 => rw [hf] at h2; exact absurd h2 (by decide)
    | part h2 => rw [hf] at h2; exact absurd h2 (by decide)
    | clear h2 => rw [hf] at h2; exact absurd h2 (by decide)
    | rest h2 => rw [hf] at h2; exact absurd h2 (by decide)
theorem WOk.lay_inv (h : WOk T w nR ws os ms sts C D Q A Z x) (hf : x.fn = fnL) : ∃ k : Nat, x.region = k ∧ k < nR ∧ k < C ∧ sts[3 + k]? = some 0 ∧ x.ol = olI w k (Q k + 1) (lvs ms os) ∧ AhD w (lvs ms os) sts k ∧ ∃ (o : RO) (j : Nat), Cur ws os ms w k (Q k) (A k) x o j ∧ ws[o.i + A k]? = some x.word := by
  cases h with
    | lay h k hr hk hC h0 ho hd o j hc hw => exact ⟨k, hr, hk, hC, h0, ho, hd, o, j, hc, hw⟩
    | claim h2 => rw [hf] at h2; exact absurd h2 (by decide)
    | ready h2 => rw [hf] at h2; exact absurd h2 (by decide)
    | object h2 => rw [hf] at h2; exact absurd h2 (by decide)
    | fetch h2 => rw [hf] at h2; exact absurd h2 (by decide)
    | all h2 => rw [hf] at h2; exact absurd h2 (by decide)
    | part h2 => rw [hf] at h2; exact absurd h2 (by decide)
    | clear h2 => rw [hf] at h2; exact absurd h2 (by decide)
    | rest h2 => rw [hf] at h2; exact absurd h2 (by decide)
theorem WOk.all_inv (h : WOk T w nR ws os ms sts C D Q A Z x) (hf : x.fn = fnA) : nR < C ∧ ∃ a : Nat, x.at_ = a ∧ a ≤ nR ∧ ∀ k, k < a → sts[3 + k]? = some 1 := by
  cases h with
    | all h hC a ha hn hd => exact ⟨hC, a, ha, hn, hd⟩
    | claim h2 => rw [hf] at h2; exact absurd h2 (by decide)
    | ready h2 => rw [hf] at h2; exact absurd h2 (by decide)
    | object h2 => rw [hf] at h2; exact absurd h2 (by decide)
    | fetch h2 => rw [hf] at h2; exact absurd h2 (by decide)
    | lay h2 => rw [hf] at h2; exact absurd h2 (by decide)
    | part h2 => rw [hf] at h2; exact absurd h2 (by decide)
    | clear h2 => rw [hf] at h2; exact absurd h2 (by decide)
    | rest h2 => rw [hf] at h2; exact absurd h2 (by decide)
theorem WOk.part_inv (h : WOk T w nR ws os ms sts C D Q A Z x) (hf : x.fn = fnP) : AllD nR sts := by
  cases h with
    | part h hd => exact hd
    | claim h2 => rw [hf] at h2; exact absurd h2 (by decide)
    | ready h2 => rw [hf] at h2; exact absurd h2 (by decide)
    | object h2 => rw [hf] at h2; exact absurd h2 (by decide)
    | fetch h2 => rw [hf] at h2; exact absurd h2 (by decide)
    | lay h2 => rw [hf] at h2; exact absurd h2 (by decide)
    | all h2 => rw [hf] at h2; exact absurd h2 (by decide)
    | clear h2 => rw [hf] at h2; exact absurd h2 (by decide)
    | rest h2 => rw [hf] at h2; exact absurd h2 (by decide)
theorem WOk.clear_inv (h : WOk T w nR ws os ms sts C D Q A Z x) (hf : x.fn = fnZ) : AllD nR sts ∧ ∃ c : Nat, c < partsI T (szL (lvs ms os)) ∧ c < D ∧ x.end_ = (partE T (szL (lvs ms os)) c : Nat) ∧ x.at_ = (szL (lvs ms os) + c * 16 + Z c : Nat) := by
  cases h with
    | clear h hd c hc hD he ha => exact ⟨hd, c, hc, hD, he, ha⟩
    | claim h2 => rw [hf] at h2; exact absurd h2 (by decide)
    | ready h2 => rw [hf] at h2; exact absurd h2 (by decide)
    | object h2 => rw [hf] at h2; exact absurd h2 (by decide)
    | fetch h2 => rw [hf] at h2; exact absurd h2 (by decide)
    | lay h2 => rw [hf] at h2; exact absurd h2 (by decide)
    | all h2 => rw [hf] at h2; exact absurd h2 (by decide)
    | part h2 => rw [hf] at h2; exact absurd h2 (by decide)
    | rest h2 => rw [hf] at h2; exact absurd h2 (by decide)
theorem WOk.rest_inv (h : WOk T w nR ws os ms sts C D Q A Z x) (hf : x.fn = fnX) : AllD nR sts ∧ partsI T (szL (lvs ms os)) < D := by
  cases h with
    | rest h hd hD => exact ⟨hd, hD⟩
    | claim h2 => rw [hf] at h2; exact absurd h2 (by decide)
    | ready h2 => rw [hf] at h2; exact absurd h2 (by decide)
    | object h2 => rw [hf] at h2; exact absurd h2 (by decide)
    | fetch h2 => rw [hf] at h2; exact absurd h2 (by decide)
    | lay h2 => rw [hf] at h2; exact absurd h2 (by decide)
    | all h2 => rw [hf] at h2; exact absurd h2 (by decide)
    | part h2 => rw [hf] at h2; exact absurd h2 (by decide)
    | clear h2 => rw [hf] at h2; exact absurd h2 (by decide)
theorem WOk.ready_inv (h : WOk T w nR ws os ms sts C D Q A Z x) (hf : x.fn = fnR) : ∃ k : Nat, x.region = k ∧ k < nR ∧ k < C ∧ sts[3 + k]? = some 0 ∧ x.ol = olI w k 0 (lvs ms os) ∧ x.wl.length ≤ k ∧ ∀ r ∈ x.wl, ∃ r' : Nat, r = r' ∧ r' < k := by
  cases h with
    | ready h k hr hk hC h0 hQ hA ho hl hb hd => exact ⟨k, hr, hk, hC, h0, ho, hl, hb⟩
    | claim h2 => rw [hf] at h2; exact absurd h2 (by decide)
    | object h2 => rw [hf] at h2; exact absurd h2 (by decide)
    | fetch h2 => rw [hf] at h2; exact absurd h2 (by decide)
    | lay h2 => rw [hf] at h2; exact absurd h2 (by decide)
    | all h2 => rw [hf] at h2; exact absurd h2 (by decide)
    | part h2 => rw [hf] at h2; exact absurd h2 (by decide)
    | clear h2 => rw [hf] at h2; exact absurd h2 (by decide)
    | rest h2 => rw [hf] at h2; exact absurd h2 (by decide)
theorem WOk.fns (h : WOk T w nR ws os ms sts C D Q A Z x) : x.fn = fnC ∨ x.fn = fnR ∨ x.fn = fnO ∨ x.fn = fnF ∨ x.fn = fnL ∨ x.fn = fnA ∨ x.fn = fnP ∨ x.fn = fnZ ∨ x.fn = fnX := by
  cases h <;> simp [*]
end inv
section step
variable {n T w nR : Nat} {ws : List Int} {os : List RO} {ms : List Nat} {xs : List WX} {sts wds : List Int} {mv : Int} {C D : Nat} {Q A Z : Nat → Nat} {j : Nat} {x : WX}
theorem olI_next {k q : Nat} {L : List RO} {o : RO} (h : (inR w k L)[q]? = some o) : olI w k q L = (o.i : Int) :: olI w k (q + 1) L := by
  obtain ⟨h1, h2⟩ := List.getElem?_eq_some_iff.1 h
  unfold olI
  rw [List.drop_eq_getElem_cons h1, h2]
  rfl
theorem olI_end {k q : Nat} {L : List RO} (h : (inR w k L).length ≤ q) : olI w k q L = [] := by
  unfold olI
  rw [List.drop_eq_nil_of_le h]; rfl
theorem set3k {v : Int} {k r : Nat} (h : r ≠ k) : (sts.set (3 + k) v)[3 + r]? = sts[3 + r]? := List.getElem?_set_ne (by omega)
theorem SI.object_end (h : SI n T w nR ws os ms xs sts wds mv C D Q A Z) (hj : xs[j]? = some x) (hf : x.fn = fnO) {k : Nat} (hr : x.region = k) (ho : x.ol = []) :
    SI n T w nR ws os ms (xs.set j { x with fn := fnC }) (sts.set (3 + k) 1) wds mv C D Q A Z := by
  have hsl := h.sl
  have hx := h.wk j x hj
  obtain ⟨k', hr', hk, hC, h0, hQ, hA, hol, hd⟩ := hx.object_inv hf
  obtain rfl : k' = k := by omega
  obtain ⟨E, e1, e2⟩ := h.s2
  have hlen : Q k' = (inR w k' (lvs ms os)).length := by
    rcases Nat.lt_or_ge (Q k') (inR w k' (lvs ms os)).length with e | e
    · rw [olI_next (List.getElem?_eq_getElem e)] at hol
      rw [hol] at ho; cases ho
    · omega
  have hOn : OnR x k' := ⟨.inr (.inl hf), hr⟩
  have h3 : ∀ r, sts[3 + r]? = some 1 → (sts.set (3 + k') 1)[3 + r]? = some 1 := fun r h1 => by
    by_cases e : r = k'
    · subst e
      rw [h0] at h1
      injection h1 with h1
      exact absurd h1 (by decide)
    · rw [set3k e]; exact h1
  have hk1 : (sts.set (3 + k') 1)[3 + k']? = some 1 := by rw [List.getElem?_set, if_pos rfl, if_pos (by omega)]
  generalize hx' : ({ x with fn := fnC } : WX) = x'
  have hfn : x'.fn = fnC := by rw [← hx']
  refine h.upd hj x' (by rw [← hx']) (by simp [hsl]) (by rw [List.getElem?_set_ne (by omega)]; exact h.s0) (by rw [List.getElem?_set_ne (by omega)]; exact h.s1) ⟨E, by rw [List.getElem?_set_ne (by omega)]; exact e1, ?_⟩ (Nat.le_refl _) (Nat.le_refl _)
    h3 (fun r hr hon => .inr (by rw [hon.inj hOn]; exact hk1)) (fun r => ?_) (fun c => .inr rfl) h.wl h.wv h.mq (fun r hr => absurd hr (not_R hfn (by decide) r)) (fun r hon => .inr (by rw [hon.inj hOn, hk1]; intro e; injection e with e; exact absurd e (by decide)))
    (fun k _ h1 h2 => by omega) (fun r hon _ => by rw [hon.inj hOn]; exact ⟨hlen, hA⟩) (fun r hon _ => by rw [hon.inj hOn]; exact hd.mono h3) (fun c hc => absurd hc (not_P hfn (by decide) c)) (fun c hc => absurd hc (not_P hf (by decide) c)) (fun c _ h1 h2 => by omega) (fun c _ => h.zl c) (.claim hfn)
  · have := countP_set (p := isZ) (x' := x') hj
    rw [isZ_no hf (by decide), isZ_no hfn (by decide)] at this
    omega
  · by_cases e : r = k'
    · rw [e]; exact .inl hOn
    · exact .inr ⟨set3k e, rfl, rfl⟩
theorem SI.object_next (hc : Ch ws 0 os T) (h : SI n T w nR ws os ms xs sts wds mv C D Q A Z) (hj : xs[j]? = some x) (hf : x.fn = fnO) {k : Nat} (hr : x.region = k) {y : Int} {rest : List Int} (ho : x.ol = y :: rest) :
    ∃ (i : Nat) (o : RO), os[i]? = some o ∧ lvB ms o = true ∧ y = o.i ∧ ∀ (oa' : Option Addr) (oc' : Nat),
      SI n T w nR ws os ms (xs.set j { x with fn := fnF, oa := oa', ol := rest, oc := oc', from_ := o.i, to := (goI ms os i : Nat), size := 1 + (o.ws.length : Int), refs := o.p, at_ := 0 }) sts wds mv C D Q A Z := by
  have hx := h.wk j x hj
  obtain ⟨k', hr', hk, hC, h0, hQ, hA, hol, hd⟩ := hx.object_inv hf
  obtain rfl : k' = k := by omega
  have hlt : Q k' < (inR w k' (lvs ms os)).length := by
    rcases Nat.lt_or_ge (Q k') (inR w k' (lvs ms os)).length with e | e
    · exact e
    · rw [olI_end e] at hol
      rw [hol] at ho; cases ho
  have hq := List.getElem?_eq_getElem hlt
  generalize (inR w k' (lvs ms os))[Q k'] = o at hq
  obtain ⟨i, hi, hl, hgo⟩ := reg_obj hc hq
  rw [olI_next hq] at hol
  rw [hol] at ho
  injection ho with ho1 ho2
  refine ⟨i, o, hi, hl, ho1.symm, fun oa' oc' => ?_⟩
  generalize hx' : ({ x with fn := fnF, oa := oa', ol := rest, oc := oc', from_ := o.i, to := (goI ms os i : Nat), size := 1 + (o.ws.length : Int), refs := o.p, at_ := 0 } : WX) = x'
  have hfn : x'.fn = fnF := by rw [← hx']
  refine h.quiet hj x' (by rw [← hx']) (by rw [isZ_no hf (by decide), isZ_no hfn (by decide)]) (fun k => ?_) (fun c => ⟨fun hc => absurd hc (not_P hfn (by decide) c), fun hc => absurd hc (not_P hf (by decide) c)⟩) ?_
  · unfold OnR
    rw [hfn, hf, ← hx']
    simp
  · exact .fetch hfn k' (by rw [← hx']; exact hr) hk hC h0 (by rw [← hx']; exact ho2.symm) hd o i ⟨hq, hi, hl, hgo, by rw [← hx'], by rw [← hx'], by rw [← hx'], by rw [← hx'], by rw [← hx', hA]; rfl, by rw [hA]; omega⟩
theorem SI.pr_le (h : SI n T w nR ws os ms xs sts wds mv C D Q A Z) {r : Nat} (hr : r < nR) : prI w (lvs ms os) Q A r ≤ lvI w (lvs ms os) r := by
  unfold prI
  rcases Nat.lt_or_ge r C with e | e
  · rcases h.d01 r hr with h0 | h1
    · obtain ⟨i, y, hi, hy⟩ := h.ow r hr e h0
      have hw := h.wk i y hi
      have key : ∀ (o : RO) (j : Nat), Cur ws os ms w r (Q r) (A r) y o j → szL ((inR w r (lvs ms os)).take (Q r)) + A r ≤ lvI w (lvs ms os) r := fun o j hc => by
        have h1 := szL_next_le hc.hq
        have h2 := hc.lt
        show _ ≤ szL (inR w r (lvs ms os))
        omega
      rcases hy.1 with hf | hf | hf | hf
      · cases hw with
        | ready _ k hr' hk hC h0 hQ hA ho hl hb hd =>
          obtain rfl : k = r := by have := hy.2; omega
          rw [hQ, hA]
          exact Nat.zero_le _
        | claim h2 => rw [hf] at h2; exact absurd h2 (by decide)
        | object h2 => rw [hf] at h2; exact absurd h2 (by decide)
        | fetch h2 => rw [hf] at h2; exact absurd h2 (by decide)
        | lay h2 => rw [hf] at h2; exact absurd h2 (by decide)
        | all h2 => rw [hf] at h2; exact absurd h2 (by decide)
        | part h2 => rw [hf] at h2; exact absurd h2 (by decide)
        | clear h2 => rw [hf] at h2; exact absurd h2 (by decide)
        | rest h2 => rw [hf] at h2; exact absurd h2 (by decide)
      · obtain ⟨k, hr', hk, hC, h0, hQ, hA, ho, hd⟩ := hw.object_inv hf
        obtain rfl : k = r := by have := hy.2; omega
        rw [hA]
        exact szL_take
      · obtain ⟨k, hr', hk, hC, h0, ho, hd, o, j, hc⟩ := hw.fetch_inv hf
        obtain rfl : k = r := by have := hy.2; omega
        exact key o j hc
      · obtain ⟨k, hr', hk, hC, h0, ho, hd, o, j, hc, _⟩ := hw.lay_inv hf
        obtain rfl : k = r := by have := hy.2; omega
        exact key o j hc
    · obtain ⟨e1, e2⟩ := h.fu r hr h1
      rw [e1, e2]
      exact szL_take
  · obtain ⟨e1, e2, _⟩ := h.fr r e
    rw [e1, e2]
    exact Nat.zero_le _
theorem SI.fetched (hc : Ch ws 0 os T) (h : SI n T w nR ws os ms xs sts wds mv C D Q A Z) {k i : Nat} {o : RO} (hk : k < nR) (h0 : sts[3 + k]? = some 0) (hcu : Cur ws os ms w k (Q k) (A k) x o i) :
    wds[o.i + A k]? = ws[o.i + A k]? := by
  obtain ⟨hq, hi, hl, hgo, _, _, _, _, _, hlt⟩ := hcu
  refine (h.wv _).2 ?_
  have hgl := goI_le ms hc hi
  have hex := ext_in hc hq
  have hgn := szL_next_le hq
  rintro (⟨r, hr, hr1, hr2⟩ | ⟨c, hc1, hc2, hc3⟩)
  · have hpr := h.pr_le hr
    rcases Nat.lt_trichotomy r k with e | e | e
    · have := fst_apart (w := w) (lvs ms os) e
      omega
    · subst e
      unfold prI at hr2
      omega
    · have hpos : 0 < Q r + A r := by
        rcases Nat.eq_zero_or_pos (Q r + A r) with e0 | e0
        · exfalso
          have h1 : Q r = 0 := by omega
          have h2 : A r = 0 := by omega
          unfold prI at hr2
          rw [h1, h2] at hr2
          have : szL ((inR w r (lvs ms os)).take 0) = 0 := rfl
          omega
        · exact e0
      cases hb : ahB w (lvs ms os) r k with
      | true =>
        have h1 := h.ah r hr hpos k e hb
        rw [h0] at h1; injection h1 with h1; exact absurd h1 (by decide)
      | false =>
        unfold ahB at hb
        rw [Bool.and_eq_false_iff, decide_eq_false_iff_not, decide_eq_false_iff_not] at hb
        omega
  · have hz : 0 < Z c := by omega
    have h1 := h.za c hz k hk
    rw [h0] at h1; injection h1 with h1; exact absurd h1 (by decide)
theorem SI.fetch (h : SI n T w nR ws os ms xs sts wds mv C D Q A Z) (hj : xs[j]? = some x) (hf : x.fn = fnF) {k i : Nat} {o : RO} (hr : x.region = k) (hcu : Cur ws os ms w k (Q k) (A k) x o i) {v : Int} (hv : ws[o.i + A k]? = some v) :
    SI n T w nR ws os ms (xs.set j { x with word := v, fn := fnL }) sts wds mv C D Q A Z := by
  have hx := h.wk j x hj
  obtain ⟨k', hr', hk, hC, h0, ho, hd, _⟩ := hx.fetch_inv hf
  obtain rfl : k' = k := by omega
  generalize hx' : ({ x with word := v, fn := fnL } : WX) = x'
  have hfn : x'.fn = fnL := by rw [← hx']
  refine h.quiet hj x' (by rw [← hx']) (by rw [isZ_no hf (by decide), isZ_no hfn (by decide)]) (fun k => ?_) (fun c => ⟨fun hc => absurd hc (not_P hfn (by decide) c), fun hc => absurd hc (not_P hf (by decide) c)⟩) ?_
  · unfold OnR
    rw [hfn, hf, ← hx']
    simp
  · obtain ⟨hq, hi, hl, hgo, a1, a2, a3, a4, a5, hlt⟩ := hcu
    exact .lay hfn k' (by rw [← hx']; exact hr) hk hC h0 (by rw [← hx']; exact ho) hd o i ⟨hq, hi, hl, hgo, by rw [← hx']; exact a1, by rw [← hx']; exact a2, by rw [← hx']; exact a3, by rw [← hx']; exact a4, by rw [← hx']; exact a5, hlt⟩ (by rw [← hx']; exact hv)
theorem wv_step {WR WR' : Nat → Prop} {NW : List Int} {p : Nat} {v : Int} (h : ∀ x, (WR x → wds[x]? = NW[x]?) ∧ (¬ WR x → wds[x]? = ws[x]?)) (hW : ∀ x, WR' x ↔ WR x ∨ x = p) (hp : p < wds.length) (hv : NW[p]? = some v) :
    ∀ x, (WR' x → (wds.set p v)[x]? = NW[x]?) ∧ (¬ WR' x → (wds.set p v)[x]? = ws[x]?) := by
  intro y
  by_cases e : y = p
  · subst e
    refine ⟨fun _ => ?_, fun hn => absurd ((hW y).2 (.inr rfl)) hn⟩
    rw [List.getElem?_set, if_pos rfl, if_pos hp, hv]
  · rw [List.getElem?_set_ne (Ne.symm e)]
    refine ⟨fun hy => ?_, fun hn => (h y).2 fun hy => hn ((hW y).2 (.inl hy))⟩
    rcases (hW y).1 hy with hy | hy
    · exact (h y).1 hy
    · exact absurd hy e
theorem SI.lay (hc : Ch ws 0 os T) (hwl : ws.length = n) (htn : T ≤ n) (h : SI n T w nR ws os ms xs sts wds mv C D Q A Z) (hj : xs[j]? = some x) (hf : x.fn = fnL) {k i : Nat} {o : RO} (hr : x.region = k) (hcu : Cur ws os ms w k (Q k) (A k) x o i) {v : Int} (hv : (nwO ms os o)[A k]? = some v) :
    ∃ Q' A', SI n T w nR ws os ms (xs.set j { x with word := v, at_ := (A k : Int) + 1, fn := if (A k : Int) + 1 = x.size then fnO else fnF }) sts (wds.set (goI ms os i + A k) v) (if (A k : Int) + 1 = x.size then mv + 1 else mv) C D Q' A' Z := by
  have hx := h.wk j x hj
  obtain ⟨k', hr', hk, hC, h0, ho, hd, _⟩ := hx.lay_inv hf
  obtain rfl : k' = k := by omega
  obtain ⟨hq, hi, hl, hgo, a1, a2, a3, a4, a5, hlt⟩ := hcu
  have hOn : OnR x k' := ⟨.inr (.inr (.inr hf)), hr⟩
  have hgn := szL_next_le hq
  have hNW : (NWI T ws ms os)[goI ms os i + A k']? = some v := (NWI_obj hi hl hlt).trans hv
  have hNl := NWI_len (ms := ms) hc hwl htn
  have hpl : goI ms os i + A k' < wds.length := by
    have := (List.getElem?_eq_some_iff.1 hNW).1
    rw [h.wl]; omega
  obtain ⟨E, e1, e2⟩ := h.s2
  have hWR : ∀ (Q' A' : Nat → Nat), (∀ r, r ≠ k' → Q' r = Q r ∧ A' r = A r) → prI w (lvs ms os) Q' A' k' = prI w (lvs ms os) Q A k' + 1 → ∀ y, WrI T w nR (lvs ms os) Q' A' Z y ↔ WrI T w nR (lvs ms os) Q A Z y ∨ y = goI ms os i + A k' := by
    intro Q' A' hne hp y
    have hpk : fstI w (lvs ms os) k' + prI w (lvs ms os) Q A k' = goI ms os i + A k' := by unfold prI; omega
    have hpr : ∀ r, r ≠ k' → prI w (lvs ms os) Q' A' r = prI w (lvs ms os) Q A r := fun r hr => by unfold prI; rw [(hne r hr).1, (hne r hr).2]
    constructor
    · rintro (⟨r, b1, b2, b3⟩ | hz)
      · by_cases e : r = k'
        · subst e
          rw [hp] at b3
          rcases Nat.lt_or_ge y (fstI w (lvs ms os) r + prI w (lvs ms os) Q A r) with e3 | e3
          · exact .inl (.inl ⟨r, b1, b2, e3⟩)
          · right; omega
        · rw [hpr r e] at b3
          exact .inl (.inl ⟨r, b1, b2, b3⟩)
      · exact .inl (.inr hz)
    · rintro ((⟨r, b1, b2, b3⟩ | hz) | rfl)
      · left
        refine ⟨r, b1, b2, ?_⟩
        by_cases e : r = k'
        · subst e; rw [hp]; omega
        · rw [hpr r e]; exact b3
      · exact .inr hz
      · left
        exact ⟨k', hk, by omega, by rw [hp]; omega⟩
  generalize hx' : ({ x with word := v, at_ := (A k' : Int) + 1, fn := if (A k' : Int) + 1 = x.size then fnO else fnF } : WX) = x'
  have hrg : x'.region = k' := by rw [← hx']; exact hr
  have hback : ∀ r, OnR x' r → OnR x r := fun r hon => by
    have h1 := hon.2
    rw [hrg] at h1
    obtain rfl : r = k' := by omega
    exact hOn
  have hcnt : ∀ f, x'.fn = f → f ≠ fnZ → E + (xs.set j x').countP isZ = min D (partsI T (szL (lvs ms os))) := fun f hfn hne => by
    have := countP_set (p := isZ) (x' := x') hj
    rw [isZ_no hf (by decide), isZ_no hfn hne] at this
    omega
  by_cases hlast : (A k' : Int) + 1 = x.size
  · have hfn : x'.fn = fnO := by rw [← hx']; exact if_pos hlast
    rw [if_pos hlast]
    have hal : A k' = o.ws.length := by omega
    refine ⟨updN Q k' (Q k' + 1), updN A k' 0, h.upd hj x' (by rw [← hx']) h.sl h.s0 h.s1 ⟨E, e1, hcnt _ hfn (by decide)⟩ (Nat.le_refl _) (Nat.le_refl _) (fun _ h => h) (fun r hr _ => h.d01 r hr)
      (fun r => ?_) (fun c => .inr rfl) (by rw [List.length_set]; exact h.wl) (wv_step h.wv (hWR _ _ (fun r hne => ⟨updN_ne hne, updN_ne hne⟩) ?_) hpl hNW) (by rw [updN_sum hk, h.mq]; rfl) (fun r hon => .inl (hback r hon)) (fun r hon => .inl ⟨.inr (.inl hfn), by rw [hrg, hon.inj hOn]⟩)
      (fun k _ h1 h2 => by omega) (fun r hon h1 => ?_) (fun r hon _ => by rw [hon.inj hOn]; exact hd) (fun c hc => absurd hc (not_P hfn (by decide) c)) (fun c hc => absurd hc (not_P hf (by decide) c)) (fun c _ h1 h2 => by omega) (fun c _ => h.zl c) ?_⟩
    · by_cases e : r = k'
      · rw [e]; exact .inl hOn
      · exact .inr ⟨rfl, updN_ne e, updN_ne e⟩
    · unfold prI
      rw [updN_hit, updN_hit, szL_next hq]
      omega
    · rw [hon.inj hOn, h0] at h1; injection h1 with h1; exact absurd h1 (by decide)
    · have hql := (List.getElem?_eq_some_iff.1 hq).1
      exact .object hfn k' hrg hk hC h0 (by rw [updN_hit]; omega) updN_hit (by rw [← hx', updN_hit]; exact ho) hd
  · have hfn : x'.fn = fnF := by rw [← hx']; exact if_neg hlast
    rw [if_neg hlast]
    refine ⟨Q, updN A k' (A k' + 1), h.upd hj x' (by rw [← hx']) h.sl h.s0 h.s1 ⟨E, e1, hcnt _ hfn (by decide)⟩ (Nat.le_refl _) (Nat.le_refl _) (fun _ h => h) (fun r hr _ => h.d01 r hr)
      (fun r => ?_) (fun c => .inr rfl) (by rw [List.length_set]; exact h.wl) (wv_step h.wv (hWR _ _ (fun r hne => ⟨rfl, updN_ne hne⟩) ?_) hpl hNW) h.mq (fun r hon => .inl (hback r hon)) (fun r hon => .inl ⟨.inr (.inr (.inl hfn)), by rw [hrg, hon.inj hOn]⟩)
      (fun k _ h1 h2 => by omega) (fun r hon h1 => ?_) (fun r hon _ => by rw [hon.inj hOn]; exact hd) (fun c hc => absurd hc (not_P hfn (by decide) c)) (fun c hc => absurd hc (not_P hf (by decide) c)) (fun c _ h1 h2 => by omega) (fun c _ => h.zl c) ?_⟩
    · by_cases e : r = k'
      · rw [e]; exact .inl hOn
      · exact .inr ⟨rfl, rfl, updN_ne e⟩
    · unfold prI
      rw [updN_hit]
      omega
    · rw [hon.inj hOn, h0] at h1; injection h1 with h1; exact absurd h1 (by decide)
    · exact .fetch hfn k' hrg hk hC h0 (by rw [← hx']; exact ho) hd o i ⟨hq, hi, hl, hgo, by rw [← hx']; exact a1, by rw [← hx']; exact a2, by rw [← hx']; exact a3, by rw [← hx']; exact a4, by rw [← hx', updN_hit]; rfl, by rw [updN_hit]; omega⟩
end step
open Go.Sep
theorem befR_len {w k : Nat} : ∀ {L : List RO}, (befR w (k + 1) L).length = (inR w k L).length + (befR w k L).length
  | [] => rfl
  | o :: L => by
    have ih := befR_len (w := w) (k := k) (L := L)
    unfold befR inR at ih ⊢
    simp only [List.filter_cons]
    by_cases e : o.i / w = k
    · simp only [e, decide_true, if_true, show k < k + 1 by omega, show ¬ k < k by omega, decide_false, Bool.false_eq_true, if_false, List.length_cons]
      omega
    · by_cases e2 : o.i / w < k
      · simp only [e, e2, decide_true, if_true, show o.i / w < k + 1 by omega, decide_false, Bool.false_eq_true, if_false, List.length_cons]
        omega
      · simp only [e, e2, show ¬ o.i / w < k + 1 by omega, decide_false, Bool.false_eq_true, if_false]
        omega
section step
variable {n T w nR : Nat} {ws : List Int} {os : List RO} {ms : List Nat} {xs : List WX} {sts wds : List Int} {mv : Int} {C D : Nat} {Q A Z : Nat → Nat} {j : Nat} {x : WX}
theorem SI.all_end (h : SI n T w nR ws os ms xs sts wds mv C D Q A Z) (hj : xs[j]? = some x) (hf : x.fn = fnA) (ha : x.at_ = nR) : SI n T w nR ws os ms (xs.set j { x with fn := fnP }) sts wds mv C D Q A Z := by
  obtain ⟨hC, a, ha2, han, hd⟩ := (h.wk j x hj).all_inv hf
  generalize hx' : ({ x with fn := fnP } : WX) = x'
  have hfn : x'.fn = fnP := by rw [← hx']
  exact h.quiet hj x' (by rw [← hx']) (by rw [isZ_no hf (by decide), isZ_no hfn (by decide)]) (fun k => ⟨fun hc => absurd hc (not_R hfn (by decide) k), fun hc => absurd hc (not_R hf (by decide) k)⟩) (fun c => ⟨fun hc => absurd hc (not_P hfn (by decide) c), fun hc => absurd hc (not_P hf (by decide) c)⟩)
    (.part hfn fun k hk => hd k (by omega))
theorem SI.all_look (h : SI n T w nR ws os ms xs sts wds mv C D Q A Z) (hj : xs[j]? = some x) (hf : x.fn = fnA) {a : Nat} (ha : x.at_ = a) (hn : a < nR) (h1 : sts[3 + a]? = some 1) : SI n T w nR ws os ms (xs.set j { x with at_ := (a : Int) + 1 }) sts wds mv C D Q A Z := by
  obtain ⟨hC, a2, ha2, han, hd⟩ := (h.wk j x hj).all_inv hf
  obtain rfl : a2 = a := by omega
  generalize hx' : ({ x with at_ := (a2 : Int) + 1 } : WX) = x'
  have hfn : x'.fn = fnA := by rw [← hx']; exact hf
  refine h.quiet hj x' (by rw [← hx']) (by rw [isZ_no hf (by decide), isZ_no hfn (by decide)]) (fun k => ⟨fun hc => absurd hc (not_R hfn (by decide) k), fun hc => absurd hc (not_R hf (by decide) k)⟩) (fun c => ⟨fun hc => absurd hc (not_P hfn (by decide) c), fun hc => absurd hc (not_P hf (by decide) c)⟩)
    (.all hfn hC (a2 + 1) (by rw [← hx']; rfl) (by omega) fun k hk => ?_)
  by_cases e : k = a2
  · rw [e]; exact h1
  · exact hd k (by omega)
theorem SI.part_none (h : SI n T w nR ws os ms xs sts wds mv C D Q A Z) (hj : xs[j]? = some x) (hf : x.fn = fnP) (hD : partsI T (szL (lvs ms os)) ≤ D) :
    SI n T w nR ws os ms (xs.set j { x with fn := fnX }) (sts.set 1 (D + 1)) wds mv C (D + 1) Q A Z := by
  have hsl := h.sl
  have hd := (h.wk j x hj).part_inv hf
  obtain ⟨E, e1, e2⟩ := h.s2
  generalize hx' : ({ x with fn := fnX } : WX) = x'
  have hfn : x'.fn = fnX := by rw [← hx']
  refine h.upd hj x' (by rw [← hx']) (by simp [hsl]) (by rw [List.getElem?_set_ne (by decide)]; exact h.s0) (by rw [List.getElem?_set, if_pos rfl, if_pos (by omega)]; rfl) ⟨E, by rw [List.getElem?_set_ne (by decide)]; exact e1, ?_⟩ (Nat.le_refl _) (by omega)
    (fun r h1 => by rw [set3 (by decide)]; exact h1) (fun k hk _ => by rw [set3 (by decide)]; exact h.d01 k hk) (fun k => .inr ⟨set3 (by decide), rfl, rfl⟩) (fun c => .inr rfl) h.wl h.wv h.mq (fun k hk => absurd hk (not_R hfn (by decide) k)) (fun k hk => absurd hk (not_R hf (by decide) k))
    (fun k _ h1 h2 => by omega) (fun k hk => absurd hk (not_R hf (by decide) k)) (fun k hk => absurd hk (not_R hf (by decide) k)) (fun c hc => absurd hc (not_P hfn (by decide) c)) (fun c hc => absurd hc (not_P hf (by decide) c)) (fun c h0 h1 h2 => by omega) (fun c _ => h.zl c)
    (.rest hfn (fun k hk => by rw [set3 (by decide)]; exact hd k hk) (by omega))
  have := countP_set (p := isZ) (x' := x') hj
  rw [isZ_no hf (by decide), isZ_no hfn (by decide)] at this
  omega
theorem SI.part_next (h : SI n T w nR ws os ms xs sts wds mv C D Q A Z) (hj : xs[j]? = some x) (hf : x.fn = fnP) (hD : D < partsI T (szL (lvs ms os))) :
    SI n T w nR ws os ms (xs.set j { x with fn := fnZ, at_ := (szL (lvs ms os) + D * 16 : Nat), end_ := (partE T (szL (lvs ms os)) D : Nat) }) (sts.set 1 (D + 1)) wds mv C (D + 1) Q A Z := by
  have hsl := h.sl
  have hd := (h.wk j x hj).part_inv hf
  obtain ⟨E, e1, e2⟩ := h.s2
  have hz := h.zf D (Nat.le_refl _)
  generalize hx' : ({ x with fn := fnZ, at_ := (szL (lvs ms os) + D * 16 : Nat), end_ := (partE T (szL (lvs ms os)) D : Nat) } : WX) = x'
  have hfn : x'.fn = fnZ := by rw [← hx']
  have hen : x'.end_ = (partE T (szL (lvs ms os)) D : Nat) := by rw [← hx']
  refine h.upd hj x' (by rw [← hx']) (by simp [hsl]) (by rw [List.getElem?_set_ne (by decide)]; exact h.s0) (by rw [List.getElem?_set, if_pos rfl, if_pos (by omega)]; rfl) ⟨E, by rw [List.getElem?_set_ne (by decide)]; exact e1, ?_⟩ (Nat.le_refl _) (by omega)
    (fun r h1 => by rw [set3 (by decide)]; exact h1) (fun k hk _ => by rw [set3 (by decide)]; exact h.d01 k hk) (fun k => .inr ⟨set3 (by decide), rfl, rfl⟩) (fun c => .inr rfl) h.wl h.wv h.mq (fun k hk => absurd hk (not_R hfn (by decide) k)) (fun k hk => absurd hk (not_R hf (by decide) k))
    (fun k _ h1 h2 => by omega) (fun k hk => absurd hk (not_R hf (by decide) k)) (fun k hk => absurd hk (not_R hf (by decide) k)) (fun c hc => .inr (by have := partE_inj hc.2.2 hD (by have := hc.2.1; omega); omega)) (fun c hc => absurd hc (not_P hf (by decide) c))
    (fun c h0 h1 h2 => by obtain rfl : c = D := by omega
                          exact ⟨hfn, hen, hD⟩) (fun c _ => h.zl c)
    (.clear hfn (fun k hk => by rw [set3 (by decide)]; exact hd k hk) D hD (Nat.lt_succ_self D) hen (by rw [← hx', hz]; rfl))
  have := countP_set (p := isZ) (x' := x') hj
  rw [isZ_no hf (by decide), isZ_yes hfn] at this
  simp at this
  omega
theorem SI.clear_end (h : SI n T w nR ws os ms xs sts wds mv C D Q A Z) (hj : xs[j]? = some x) (hf : x.fn = fnZ) (he : x.at_ = x.end_) : ∃ E : Nat, sts[2]? = some (E : Int) ∧
    SI n T w nR ws os ms (xs.set j { x with fn := fnP }) (sts.set 2 (E + 1)) wds mv C D Q A Z := by
  have hsl := h.sl
  obtain ⟨hd, c, hc, hD, he2, ha2⟩ := (h.wk j x hj).clear_inv hf
  obtain ⟨E, e1, e2⟩ := h.s2
  have hOn : OnP T (szL (lvs ms os)) x c := ⟨hf, he2, hc⟩
  refine ⟨E, e1, ?_⟩
  generalize hx' : ({ x with fn := fnP } : WX) = x'
  have hfn : x'.fn = fnP := by rw [← hx']
  refine h.upd hj x' (by rw [← hx']) (by simp [hsl]) (by rw [List.getElem?_set_ne (by decide)]; exact h.s0) (by rw [List.getElem?_set_ne (by decide)]; exact h.s1) ⟨E + 1, by rw [List.getElem?_set, if_pos rfl, if_pos (by omega)]; rfl, ?_⟩ (Nat.le_refl _) (Nat.le_refl _)
    (fun r h1 => by rw [set3 (by decide)]; exact h1) (fun k hk _ => by rw [set3 (by decide)]; exact h.d01 k hk) (fun k => .inr ⟨set3 (by decide), rfl, rfl⟩) (fun c => .inr rfl) h.wl h.wv h.mq (fun k hk => absurd hk (not_R hfn (by decide) k)) (fun k hk => absurd hk (not_R hf (by decide) k))
    (fun k _ h1 h2 => by omega) (fun k hk => absurd hk (not_R hf (by decide) k)) (fun k hk => absurd hk (not_R hf (by decide) k)) (fun c hc => absurd hc (not_P hfn (by decide) c)) (fun c' hc' => .inr ?_) (fun c h0 h1 h2 => by omega) (fun c _ => h.zl c)
    (.part hfn fun k hk => by rw [set3 (by decide)]; exact hd k hk)
  · have := countP_set (p := isZ) (x' := x') hj
    rw [isZ_yes hf, isZ_no hfn (by decide)] at this
    simp at this
    omega
  · obtain rfl := hc'.inj hOn
    unfold partL
    omega
theorem SI.clear_next (htn : T ≤ n) (h : SI n T w nR ws os ms xs sts wds mv C D Q A Z) (hj : xs[j]? = some x) (hf : x.fn = fnZ) (he : x.at_ ≠ x.end_) : ∃ (a : Nat) (Z' : Nat → Nat), x.at_ = a ∧ a < n ∧
    SI n T w nR ws os ms (xs.set j { x with at_ := (a : Int) + 1 }) sts (wds.set a 0) mv C D Q A Z' := by
  have hsl := h.sl
  obtain ⟨hd, c, hc, hD, he2, ha2⟩ := (h.wk j x hj).clear_inv hf
  obtain ⟨E, e1, e2⟩ := h.s2
  have hOn : OnP T (szL (lvs ms os)) x c := ⟨hf, he2, hc⟩
  have hzl := h.zl c
  have hlt : szL (lvs ms os) + c * 16 + Z c < partE T (szL (lvs ms os)) c := by
    unfold partL at hzl
    have : szL (lvs ms os) + c * 16 ≤ partE T (szL (lvs ms os)) c := by
      unfold partE
      unfold partsI at hc
      omega
    omega
  have hT : partE T (szL (lvs ms os)) c ≤ T := by unfold partE; omega
  have hwl := h.wl
  refine ⟨szL (lvs ms os) + c * 16 + Z c, updN Z c (Z c + 1), ha2, by omega, ?_⟩
  generalize hx' : ({ x with at_ := ((szL (lvs ms os) + c * 16 + Z c : Nat) : Int) + 1 } : WX) = x'
  have hfn : x'.fn = fnZ := by rw [← hx']; exact hf
  have hen : x'.end_ = x.end_ := by rw [← hx']
  have hiff : ∀ c', OnP T (szL (lvs ms os)) x' c' ↔ OnP T (szL (lvs ms os)) x c' := fun c' => by
    unfold OnP
    rw [hfn, hf, hen]
  refine h.upd hj x' (by rw [← hx']) hsl h.s0 h.s1 ⟨E, e1, ?_⟩ (Nat.le_refl _) (Nat.le_refl _)
    (fun r h1 => h1) (fun k hk _ => h.d01 k hk) (fun k => .inr ⟨rfl, rfl, rfl⟩) (fun c' => ?_) (by rw [List.length_set]; exact hwl) (wv_step h.wv (fun y => ?_) (by omega) (NWI_zero (by omega) (by omega))) h.mq (fun k hk => absurd hk (not_R hfn (by decide) k)) (fun k hk => absurd hk (not_R hf (by decide) k))
    (fun k _ h1 h2 => by omega) (fun k hk => absurd hk (not_R hf (by decide) k)) (fun k hk => absurd hk (not_R hf (by decide) k)) (fun c' hc' => .inl ((hiff c').1 hc')) (fun c' hc' => .inl ((hiff c').2 hc')) (fun c h0 h1 h2 => by omega) (fun c' hc' => ?_)
    (.clear hfn hd c hc hD (by rw [hen]; exact he2) (by rw [← hx', updN_hit]; rfl))
  · have := countP_set (p := isZ) (x' := x') hj
    rw [isZ_yes hf, isZ_yes hfn] at this
    omega
  · by_cases e : c' = c
    · rw [e]; exact .inl hOn
    · exact .inr (updN_ne e)
  · constructor
    · rintro (hr | ⟨c', b1, b2, b3⟩)
      · exact .inl (.inl hr)
      · by_cases e : c' = c
        · subst e
          rw [updN_hit] at b3
          rcases Nat.lt_or_ge y (szL (lvs ms os) + c' * 16 + Z c') with e3 | e3
          · exact .inl (.inr ⟨c', b1, b2, e3⟩)
          · right; omega
        · rw [updN_ne e] at b3
          exact .inl (.inr ⟨c', b1, b2, b3⟩)
    · rintro ((hr | ⟨c', b1, b2, b3⟩) | rfl)
      · exact .inl hr
      · right
        refine ⟨c', b1, b2, ?_⟩
        by_cases e : c' = c
        · subst e; rw [updN_hit]; omega
        · rw [updN_ne e]; exact b3
      · exact .inr ⟨c, hc, by omega, by rw [updN_hit]; omega⟩
  · obtain rfl := hc'.inj hOn
    rw [updN_hit]
    unfold partL
    omega
theorem SI.over (hc : Ch ws 0 os T) (hnR : nR = numR w T) (h1w : 1 ≤ w) (h : SI n T w nR ws os ms xs sts wds mv C D Q A Z) (hwl : ws.length = n) (htn : T ≤ n) (ho : OverP sts nR (partsI T (szL (lvs ms os)) : Nat)) : wds = NWI T ws ms os ∧ mv = ((lvs ms os).length : Nat) := by
  obtain ⟨o1, o2⟩ := ho
  have hall : AllD nR sts := fun k hk => by
    rcases h.d01 k hk with e | e
    · exact absurd rfl (o1 k 0 hk e)
    · exact e
  obtain ⟨E, e1, e2⟩ := h.s2
  rw [e1] at o2
  injection o2 with o2
  have hEP : E = partsI T (szL (lvs ms os)) := by omega
  have hcnt : xs.countP isZ = 0 := by omega
  have hDP : partsI T (szL (lvs ms os)) ≤ D := by omega
  have hnoZ : ∀ (i : Nat) (y : WX), xs[i]? = some y → y.fn ≠ fnZ := fun i y hi hf => by
    rw [List.countP_eq_zero] at hcnt
    exact hcnt y (List.mem_of_getElem? hi) (isZ_yes hf)
  have hZ : ∀ c, c < partsI T (szL (lvs ms os)) → Z c = partL T (szL (lvs ms os)) c := fun c hcp => by
    rcases h.zo c hcp (by omega) with e | ⟨i, y, hi, hy⟩
    · exact e
    · exact absurd hy.1 (hnoZ i y hi)
  have hQ : ∀ k, k < nR → Q k = (inR w k (lvs ms os)).length ∧ A k = 0 := fun k hk => h.fu k hk (hall k hk)
  have hfS : fstI w (lvs ms os) nR = szL (lvs ms os) := by
    show szL (befR w nR (lvs ms os)) = _
    rw [hnR, befR_all ms h1w hc]
  have hNl := NWI_len (ms := ms) hc hwl htn
  constructor
  · apply List.ext_getElem?
    intro y
    by_cases hyS : y < szL (lvs ms os)
    · refine (h.wv y).1 (.inl ?_)
      obtain ⟨r, b1, b2, b3⟩ := fst_find (w := w) (lvs ms os) (k := nR) (x := y) (by omega)
      refine ⟨r, b1, b2, ?_⟩
      unfold prI
      rw [(hQ r b1).1, (hQ r b1).2, List.take_length]
      exact b3
    · by_cases hyT : y < T
      · refine (h.wv y).1 (.inr ⟨(y - szL (lvs ms os)) / 16, ?_, by omega, ?_⟩)
        · unfold partsI; omega
        · rw [hZ _ (by unfold partsI; omega)]
          unfold partL partE
          omega
      · rw [NWI_rest hc (by omega)]
        by_cases hw : WrI T w nR (lvs ms os) Q A Z y
        · rw [(h.wv y).1 hw, NWI_rest hc (by omega)]
        · exact (h.wv y).2 hw
  · rw [h.mq]
    congr 1
    have : ∀ m, m ≤ nR → ((List.range m).map Q).sum = (befR w m (lvs ms os)).length := by
      intro m
      induction m with
      | zero => intro _; rw [befR_zero]; rfl
      | succ m ih =>
        intro hm
        rw [List.range_succ, List.map_append, List.sum_append, ih (by omega)]
        simp only [List.map_cons, List.map_nil, List.sum_cons, List.sum_nil]
        rw [(hQ m (by omega)).1]
        rw [befR_len, Nat.add_comm, Nat.add_zero]
    rw [this nR (Nat.le_refl _), hnR, befR_all ms h1w hc]
end step
open Go.Sep
def wszI (ws : List Int) (i : Int) : Nat := 1 + (unN (ws.getD i.toNat 0)).toNat
def szA (ws : List Int) (l : List Int) : Nat := (l.map (wszI ws)).sum
theorem wsz_obj {ws : List Int} {os : List RO} {T j : Nat} {o : RO} (h : Ch ws 0 os T) (hj : os[j]? = some o) : wszI ws o.i = 1 + o.ws.length := by
  have hat := (h.at hj).2
  obtain ⟨u0, u1, u2, u3, u4⟩ := packI_un hat.2.1
  unfold wszI
  rw [Int.toNat_natCast, List.getD_eq_getElem?_getD, hat.2.2.1, Option.getD_some, u3, Int.toNat_natCast]
theorem szA_ol {ws : List Int} {os : List RO} {ms : List Nat} {T w k q : Nat} (h : Ch ws 0 os T) : szA ws (olI w k q (lvs ms os)) = szL ((inR w k (lvs ms os)).drop q) := by
  unfold szA olI szL
  rw [List.map_map]
  congr 1
  refine List.map_congr_left fun o ho => ?_
  obtain ⟨i, hi⟩ := List.getElem?_of_mem (List.mem_of_mem_drop ho)
  obtain ⟨j, hj, _⟩ := inR_os hi
  exact wsz_obj h hj
def phiW (nR : Nat) (ws : List Int) (x : WX) : Nat :=
  if x.fn = fnC then nR + 5 else if x.fn = fnR then x.wl.length + 3 + x.ol.length + 2 * szA ws x.ol + (nR + 5) else if x.fn = fnO then x.ol.length + 2 * szA ws x.ol + 1 + (nR + 5) else
  if x.fn = fnF then x.ol.length + 2 * szA ws x.ol + 2 * (x.size - x.at_).toNat + 1 + (nR + 5) else if x.fn = fnL then x.ol.length + 2 * szA ws x.ol + 2 * (x.size - x.at_).toNat + (nR + 5) else
  if x.fn = fnA then (nR - x.at_.toNat) + 3 else if x.fn = fnP then 1 else if x.fn = fnZ then (x.end_ - x.at_).toNat + 2 else 0
def cRI (w nR : Nat) (L : List RO) (k : Nat) : Nat := nR + 4 + (inR w k L).length + 2 * lvI w L k
def PhiI (T w nR : Nat) (ws : List Int) (os : List RO) (ms : List Nat) (xs : List WX) (C D : Nat) : Nat :=
  (((List.range nR).drop C).map (cRI w nR (lvs ms os))).sum + (xs.map (phiW nR ws)).sum + 20 * (partsI T (szL (lvs ms os)) - D)
theorem perm_sum {l l' : List Nat} (h : l.Perm l') : l.sum = l'.sum := by
  induction h with
  | nil => rfl
  | cons x _ ih => rw [List.sum_cons, List.sum_cons, ih]
  | swap x y l => simp only [List.sum_cons]; omega
  | trans _ _ a b => exact a.trans b
theorem sum_set {α : Type} {f : α → Nat} {xs : List α} {j : Nat} {x x' : α} (h : xs[j]? = some x) : ((xs.set j x').map f).sum + f x = (xs.map f).sum + f x' := by
  have h1 := perm_sum ((permM_at h).map f)
  have h2 := perm_sum ((permM_put (r' := x') (List.getElem?_eq_some_iff.1 h).1).map f)
  rw [List.map_cons, List.sum_cons] at h1 h2
  omega
section step
variable {n T w nR : Nat} {ws : List Int} {os : List RO} {ms : List Nat} {xs : List WX} {sts wds : List Int} {mv : Int} {C D C' D' : Nat} {Q A Z : Nat → Nat} {j : Nat} {x : WX}
theorem Phi_lt (hj : xs[j]? = some x) {x' : WX} (h : phiW nR ws x' < phiW nR ws x) : PhiI T w nR ws os ms (xs.set j x') C D < PhiI T w nR ws os ms xs C D := by
  have := sum_set (f := phiW nR ws) (x' := x') hj
  unfold PhiI
  omega
theorem phi_C {x : WX} (h : x.fn = fnC) : phiW nR ws x = nR + 5 := by unfold phiW; rw [if_pos h]
theorem phi_R {x : WX} (h : x.fn = fnR) : phiW nR ws x = x.wl.length + 3 + x.ol.length + 2 * szA ws x.ol + (nR + 5) := by unfold phiW; rw [h]; rfl
theorem phi_O {x : WX} (h : x.fn = fnO) : phiW nR ws x = x.ol.length + 2 * szA ws x.ol + 1 + (nR + 5) := by unfold phiW; rw [h]; rfl
theorem phi_F {x : WX} (h : x.fn = fnF) : phiW nR ws x = x.ol.length + 2 * szA ws x.ol + 2 * (x.size - x.at_).toNat + 1 + (nR + 5) := by unfold phiW; rw [h]; rfl
theorem phi_L {x : WX} (h : x.fn = fnL) : phiW nR ws x = x.ol.length + 2 * szA ws x.ol + 2 * (x.size - x.at_).toNat + (nR + 5) := by unfold phiW; rw [h]; rfl
theorem phi_A {x : WX} (h : x.fn = fnA) : phiW nR ws x = (nR - x.at_.toNat) + 3 := by unfold phiW; rw [h]; rfl
theorem phi_P {x : WX} (h : x.fn = fnP) : phiW nR ws x = 1 := by unfold phiW; rw [h]; rfl
theorem phi_Z {x : WX} (h : x.fn = fnZ) : phiW nR ws x = (x.end_ - x.at_).toNat + 2 := by unfold phiW; rw [h]; rfl
theorem phi_X {x : WX} (h : x.fn = fnX) : phiW nR ws x = 0 := by unfold phiW; rw [h]; rfl
theorem Phi_claim_next (hc : Ch ws 0 os T) (hj : xs[j]? = some x) (hf : x.fn = fnC) (hC : C < nR) {x' : WX} (hf' : x'.fn = fnR) (hl : x'.wl.length ≤ C) (ho : x'.ol = stI w C (lvs ms os)) :
    PhiI T w nR ws os ms (xs.set j x') (C + 1) D < PhiI T w nR ws os ms xs C D := by
  have h1 := sum_set (f := phiW nR ws) (x' := x') hj
  rw [phi_C hf, phi_R hf'] at h1
  have h2 : (List.range nR).drop C = C :: (List.range nR).drop (C + 1) := by
    rw [List.drop_eq_getElem_cons (by rw [List.length_range]; exact hC), List.getElem_range]
  have h3 : szA ws x'.ol = lvI w (lvs ms os) C := by
    rw [ho]
    show szA ws (olI w C 0 (lvs ms os)) = _
    rw [szA_ol hc]; rfl
  have h4 : x'.ol.length = (inR w C (lvs ms os)).length := by rw [ho]; unfold stI; rw [List.length_map]
  unfold PhiI
  rw [h2, List.map_cons, List.sum_cons]
  unfold cRI
  omega
theorem Phi_claim_end (hj : xs[j]? = some x) (hf : x.fn = fnC) (hC : nR ≤ C) {x' : WX} (hf' : x'.fn = fnA) (ha : x'.at_ = 0) : PhiI T w nR ws os ms (xs.set j x') (C + 1) D < PhiI T w nR ws os ms xs C D := by
  have h1 := sum_set (f := phiW nR ws) (x' := x') hj
  rw [phi_C hf, phi_A hf', ha] at h1
  unfold PhiI
  rw [List.drop_eq_nil_of_le (by rw [List.length_range]; omega), List.drop_eq_nil_of_le (by rw [List.length_range]; omega)]
  simp only [List.map_nil, List.sum_nil, Int.toNat_zero] at h1 ⊢
  omega
theorem Phi_part (hj : xs[j]? = some x) (hf : x.fn = fnP) (hD : D < partsI T (szL (lvs ms os))) {x' : WX} (hf' : x'.fn = fnZ) (ha : x'.at_ = (szL (lvs ms os) + D * 16 : Nat)) (he : x'.end_ = (partE T (szL (lvs ms os)) D : Nat)) : PhiI T w nR ws os ms (xs.set j x') C (D + 1) < PhiI T w nR ws os ms xs C D := by
  have h1 := sum_set (f := phiW nR ws) (x' := x') hj
  rw [phi_P hf, phi_Z hf', ha, he] at h1
  have h2 : ((partE T (szL (lvs ms os)) D : Nat) : Int) - ((szL (lvs ms os) + D * 16 : Nat) : Int) ≤ 16 := by unfold partE; omega
  unfold PhiI
  omega
theorem Phi_part_none (hj : xs[j]? = some x) (hf : x.fn = fnP) {x' : WX} (hf' : x'.fn = fnX) : PhiI T w nR ws os ms (xs.set j x') C (D + 1) < PhiI T w nR ws os ms xs C D := by
  have h1 := sum_set (f := phiW nR ws) (x' := x') hj
  rw [phi_P hf, phi_X hf'] at h1
  unfold PhiI
  omega
def Stk (nR : Nat) (sts : List Int) (x : WX) : Prop := (x.fn = fnR ∧ ∃ (r : Nat) (rest : List Int), x.wl = (r : Int) :: rest ∧ sts[3 + r]? = some 0) ∨ (x.fn = fnA ∧ ∃ a : Nat, x.at_ = a ∧ a < nR ∧ sts[3 + a]? = some 0) ∨ x.fn = fnX
theorem SI.stuck (h : SI n T w nR ws os ms xs sts wds mv C D Q A Z) (h1 : 1 ≤ xs.length) (hs : ∀ (j : Nat) (x : WX), xs[j]? = some x → Stk nR sts x) : OverP sts nR (partsI T (szL (lvs ms os)) : Nat) := by
  have hno : ∀ (m k : Nat), k < m → ∀ (j : Nat) (x : WX), xs[j]? = some x → ¬ OnR x k := by
    intro m
    induction m with
    | zero => intro k hk; exact absurd hk (Nat.not_lt_zero _)
    | succ m ih =>
      intro k hk j x hj hon
      have hw := h.wk j x hj
      obtain ⟨o1, o2, o3⟩ := hw.onR hon
      rcases hs j x hj with ⟨hf, r, rest, hl, hr⟩ | ⟨hf, _⟩ | hf
      · obtain ⟨k', hr', hk', hC', h0', ho', hl', hb'⟩ := hw.ready_inv hf
        obtain rfl : k' = k := by have := hon.2; omega
        obtain ⟨r', e, hlt⟩ := hb' r (by rw [hl]; exact .head _)
        obtain rfl : r' = r := by omega
        obtain ⟨i, y, hi, hy⟩ := h.ow r' (by omega) (by omega) hr
        exact ih r' (by omega) i y hi hy
      · exact not_R hf (by decide) k hon
      · exact not_R hf (by decide) k hon
  have hdone : ∀ k, k < nR → k < C → sts[3 + k]? = some 1 := fun k hk hkC => by
    rcases h.d01 k hk with e | e
    · obtain ⟨i, y, hi, hy⟩ := h.ow k hk hkC e
      exact absurd hy (hno (k + 1) k (Nat.lt_succ_self k) i y hi)
    · exact e
  have hX : ∀ (j : Nat) (x : WX), xs[j]? = some x → x.fn = fnX := fun j x hj => by
    rcases hs j x hj with ⟨hf, r, rest, hl, hr⟩ | ⟨hf, a, ha, han, ha0⟩ | hf
    · have hw := h.wk j x hj
      obtain ⟨k', hr', hk', hC', h0', ho', hl', hb'⟩ := hw.ready_inv hf
      exact absurd ⟨.inl hf, hr'⟩ (hno (k' + 1) k' (Nat.lt_succ_self _) j x hj)
    · obtain ⟨hC, _⟩ := (h.wk j x hj).all_inv hf
      have := hdone a han (by omega)
      rw [ha0] at this; injection this with this; exact absurd this (by decide)
    · exact hf
  have hx0 : xs[0]? = some xs[0] := List.getElem?_eq_getElem _
  obtain ⟨hd, hD⟩ := (h.wk 0 _ hx0).rest_inv (hX 0 _ hx0)
  obtain ⟨E, e1, e2⟩ := h.s2
  have hcnt : xs.countP isZ = 0 := by
    rw [List.countP_eq_zero]
    intro y hy
    obtain ⟨i, hi⟩ := List.getElem?_of_mem hy
    rw [isZ_no (hX i y hi) (by decide)]
    decide
  refine ⟨fun k y hk hy => ?_, ?_⟩
  · rw [hd k hk] at hy
    injection hy with hy
    omega
  · rw [e1]
    congr 1
    omega
theorem SI.new (hwl : ws.length = n) (hxs : ∀ (j : Nat) (y : WX), xs[j]? = some y → y = wk0 j y.c) : SI n T w nR ws os ms xs (List.replicate (3 + nR) 0) ws 0 0 0 (fun _ => 0) (fun _ => 0) (fun _ => 0) := by
  have hrep : ∀ i, i < 3 + nR → (List.replicate (3 + nR) (0 : Int))[i]? = some 0 := fun i hi => by rw [List.getElem?_replicate, if_pos hi]
  have hfn : ∀ (j : Nat) (y : WX), xs[j]? = some y → y.fn = fnC := fun j y hy => by rw [hxs j y hy]
  have hnW : ∀ x, ¬ WrI T w nR (lvs ms os) (fun _ => 0) (fun _ => 0) (fun _ => 0) x := by
    rintro y (⟨k, hk, b1, b2⟩ | ⟨c, hc, b1, b2⟩)
    · unfold prI at b2
      dsimp only at b2
      have : szL ((inR w k (lvs ms os)).take 0) = 0 := rfl
      omega
    · dsimp only at b2
      omega
  refine ⟨fun j y hy => by rw [hxs j y hy], by simp, hrep 0 (by omega), hrep 1 (by omega), ⟨0, hrep 2 (by omega), ?_⟩, fun k hk => .inl (hrep _ (by omega)), hwl, fun y => ⟨fun hy => absurd hy (hnW y), fun _ => rfl⟩, ?_, fun k _ => ⟨rfl, rfl, fun hk => hrep _ (by omega)⟩, fun k _ hk => absurd hk (Nat.not_lt_zero _), fun k hk h1 => ?_, fun j j' y y' k hy _ hon => absurd hon (not_R (hfn j y hy) (by decide) k), fun k _ h0 => by omega,
    fun c _ => rfl, fun c _ hc => absurd hc (Nat.not_lt_zero _), fun c => Nat.zero_le _, fun j j' y y' c hy _ hon => absurd hon (not_P (hfn j y hy) (by decide) c), fun c h0 => absurd h0 (Nat.not_lt_zero _), fun j y hy => .claim (hfn j y hy)⟩
  · have : xs.countP isZ = 0 := by
      rw [List.countP_eq_zero]
      intro y hy
      obtain ⟨i, hi⟩ := List.getElem?_of_mem hy
      rw [isZ_no (hfn i y hi) (by decide)]
      decide
    rw [this]
    omega
  · have : ∀ m : Nat, ((List.range m).map fun _ => 0).sum = 0 := fun m => by
      induction m with
      | zero => rfl
      | succ m ih => rw [List.range_succ, List.map_append, List.sum_append, ih]; rfl
    rw [this]; rfl
  · rw [hrep _ (by omega)] at h1
    injection h1 with h1
    exact absurd h1 (by decide)
end step
open Go.Sep
inductive Rch (os : List RO) (rts : List Int) : Nat → Prop
  | root {z : Int} {j : Nat} {o : RO} (hz : z ∈ rts) (hj : os[j]? = some o) (he : z = (o.i : Int) + 1) : Rch os rts j
  | ref {i k j : Nat} {o o' : RO} {y : Int} (h : Rch os rts i) (hi : os[i]? = some o) (hk : (k : Int) < o.p) (hy : o.ws[k]? = some y) (hj : os[j]? = some o') (he : y = (o'.i : Int) + 1) : Rch os rts j
def HitI (os : List RO) (out : List Bool) (y : Int) : Prop := y = 0 ∨ ∀ (j : Nat) (o : RO), os[j]? = some o → y = (o.i : Int) + 1 → out[j]? = some true
def upB (a b : List Bool) : Prop := ∀ j : Nat, a[j]? = some true → b[j]? = some true
theorem HitI.up {os : List RO} {a b : List Bool} {y : Int} (h : HitI os a y) (u : upB a b) : HitI os b y := h.imp id fun k j o hj he => u j (k j o hj he)
structure RcI (os : List RO) (rts : List Int) (out : List Bool) : Prop where
  len : out.length = os.length
  snd : ∀ j : Nat, out[j]? = some true → Rch os rts j
theorem RcI.set {ws : List Int} {T : Nat} {os : List RO} {rts : List Int} {out : List Bool} (h : RcI os rts out) {j : Nat} (hr : Rch os rts j) : RcI os rts (out.set j true) := by
  refine ⟨by rw [List.length_set]; exact h.len, fun i hi => ?_⟩
  rcases set_cases hi with ⟨rfl, _⟩ | ⟨_, hi⟩
  · exact hr
  · exact h.snd i hi
end Go.Proofs.YtfmkjbmogfhpbaaGreatDoor
namespace Go.Proofs.YtfmkjbmogfhpbaaGreatDoor.Mk
open Go.Sep
inductive CL where
  | none
  | dq (d : Nat) (y : Dq.DK)
  | sp (y : Sp.SK)
structure WK where
  k : Nat
  st : Nat
  at_ : Nat
  to : Nat
  x : TK
  scans : Bool
  push : Int
  tn : Nat
  cl : CL
  victim : Nat
  low : Int
  seen : Int
structure DQ where
  k : Nat
  ws : List Int
  P : List Int
  T : Nat
structure MS where
  X : List WK
  D : List DQ
  ms : List Nat
  nc : Nat
  sw : List Int
  sP : List Int
  sL : Option Nat
  tv : Nat
  m : Nat
def idx (W w d : Nat) : Nat := if d ≤ w then w - d else w + W - d
def whoI (W d k : Nat) : Nat := if d + k < W then d + k else d + k - W
theorem idx_lt {W w d : Nat} (hw : w < W) (hd : d < W) : idx W w d < W := by unfold idx; split <;> omega
theorem idx_zero {W w d : Nat} (hw : w < W) (hd : d < W) : idx W w d = 0 ↔ w = d := by unfold idx; split <;> omega
theorem who_idx {W w d : Nat} (hw : w < W) (hd : d < W) : whoI W d (idx W w d) = w := by
  unfold whoI idx
  by_cases e : d ≤ w
  · rw [if_pos e, if_pos (by omega)]; omega
  · rw [if_neg e, if_neg (by omega)]; omega
theorem idx_who {W d k : Nat} (hk : k < W) (hd : d < W) : idx W (whoI W d k) d = k := by
  unfold whoI idx
  by_cases e : d + k < W
  · rw [if_pos e, if_pos (by omega)]; omega
  · rw [if_neg e, if_neg (by omega)]; omega
def offD (k : Nat) : Dq.DK := ⟨k, false, false, 0, 0, 0, 0, 0⟩
def offS (k : Nat) : Sp.SK := ⟨k, false, 0, 0, 0, 0, 0⟩
def clD (d k : Nat) : CL → Dq.DK
  | .dq d' y => if d' = d then y else offD k
  | _ => offD k
def atD (d k : Nat) : Option WK → Dq.DK
  | some x => clD d k x.cl
  | none => offD k
def dcs (W d : Nat) (X : List WK) : List Dq.DK := (List.range W).map fun k => atD d k X[whoI W d k]?
def clS (k : Nat) : CL → Sp.SK
  | .sp y => y
  | _ => offS k
def atS (x : WK) : Sp.SK := clS x.k x.cl
def scs (X : List WK) : List Sp.SK := X.map atS
theorem dcs_get {W d w : Nat} {X : List WK} {x : WK} (hw : w < W) (hd : d < W) (hx : X[w]? = some x) : (dcs W d X)[idx W w d]? = some (clD d (idx W w d) x.cl) := by
  unfold dcs
  rw [List.getElem?_map, List.getElem?_range (idx_lt hw hd)]
  show some (atD d (idx W w d) X[whoI W d (idx W w d)]?) = _
  rw [who_idx hw hd, hx]
  rfl
theorem dcs_set {W d w : Nat} {X : List WK} {x' : WK} (hw : w < W) (hd : d < W) (hX : X.length = W) : dcs W d (X.set w x') = (dcs W d X).set (idx W w d) (clD d (idx W w d) x'.cl) := by
  apply List.ext_getElem?
  intro k
  rw [List.getElem?_set]
  unfold dcs
  rw [List.getElem?_map, List.getElem?_map, List.length_map, List.length_range]
  by_cases hk : k < W
  · rw [List.getElem?_range hk]
    show some (atD d k (X.set w x')[whoI W d k]?) = _
    rw [List.getElem?_set]
    by_cases e : idx W w d = k
    · subst e
      rw [if_pos rfl, if_pos (idx_lt hw hd), who_idx hw hd, if_pos rfl, if_pos (by omega)]
      rfl
    · rw [if_neg e, if_neg (fun e2 => e (by rw [e2]; exact idx_who hk hd))]
      rfl
  · rw [List.getElem?_eq_none (by simpa using hk)]
    by_cases e : idx W w d = k
    · have := idx_lt hw hd; omega
    · rw [if_neg e]; rfl
theorem set_id {α : Type} {l : List α} {i : Nat} {v : α} (h : l[i]? = some v) : l.set i v = l := by
  obtain ⟨h1, h2⟩ := List.getElem?_eq_some_iff.1 h
  rw [← h2]; exact List.set_getElem_self h1
theorem dcs_same {W d w : Nat} {X : List WK} {x x' : WK} (hw : w < W) (hd : d < W) (hX : X.length = W) (hx : X[w]? = some x) (h : clD d (idx W w d) x'.cl = clD d (idx W w d) x.cl) : dcs W d (X.set w x') = dcs W d X := by
  rw [dcs_set hw hd hX, h]
  exact set_id (dcs_get hw hd hx)
theorem scs_set {w : Nat} {X : List WK} {x' : WK} : scs (X.set w x') = (scs X).set w (atS x') := List.map_set
theorem scs_get {w : Nat} {X : List WK} {x : WK} (hx : X[w]? = some x) : (scs X)[w]? = some (atS x) := by
  unfold scs; rw [List.getElem?_map, hx]; rfl
theorem scs_same {w : Nat} {X : List WK} {x x' : WK} (hx : X[w]? = some x) (h : atS x' = atS x) : scs (X.set w x') = scs X := by
  rw [scs_set, h]
  exact set_id (scs_get hx)
section deq
variable {nc rm : Nat} {cs : List Dq.DK} {pu next : Int} {m : Nat} {ws P : List Int} {T k : Nat} {z : Dq.DK}
theorem DHI_m {m' : Nat} (h : Dq.DHI nc rm cs pu next m ws P T) (hm : m ≤ m') : Dq.DHI nc rm cs pu next m' ws P T :=
  ⟨h.r4, h.n0, h.cl, h.ck, h.wl, h.tp, Nat.le_trans h.tb hm, h.ph, h.pa, h.pb, h.own, h.th⟩
theorem DHI_off (h : Dq.DHI nc rm (cs.set k z) pu next m ws P T) (hk : k < cs.length) (hz : z.on = false) : Dq.DHI nc rm (cs.set k (offD k)) pu next m ws P T := by
  have hx : (cs.set k z)[k]? = some z := Dq.set_eq hk
  have hcl := h.cl
  rw [List.length_set] at hcl
  have := h.quiet (k := k) (pu' := pu) (offD k) rfl (by omega) (Nat.le_refl _) (fun e => by
    subst e
    obtain ⟨h1, _, _⟩ := h.own z hx
    obtain ⟨h2, h3⟩ := h1 hz
    exact Dq.OwnD.off rfl h2 h3) (fun _ => rfl) (fun _ e => by cases e)
  rwa [List.set_set] at this
theorem DHI_push (h : Dq.DHI nc rm cs pu next m ws P T) (hx : cs[0]? = some (offD 0)) (c : Nat) {w : Int} (h1 : 0 < w) (h2 : w < next) : Dq.DHI nc rm (cs.set 0 ⟨0, true, true, c, 0, 0, 0, w⟩) w next m ws P T := by
  obtain ⟨h3, h4⟩ := (h.own _ hx).1 rfl
  refine h.quiet (k := 0) _ rfl h.n0 (Nat.le_refl _) (fun _ => ⟨fun e => (by cases e), fun _ _ => ⟨rfl, h1, h2, Nat.zero_le _, h4, ?_, ?_⟩, fun _ e => (by cases e)⟩) (fun e => absurd rfl e) (fun e => absurd rfl e)
  · intro (e : 1 ≤ 0); omega
  · intro (e : 0 = 2); omega
theorem DHI_pop (h : Dq.DHI nc rm cs pu next m ws P T) (hx : cs[0]? = some (offD 0)) (c : Nat) : Dq.DHI nc rm (cs.set 0 ⟨0, true, false, c, 0, 0, 0, 0⟩) pu next m ws P T := by
  obtain ⟨h3, h4⟩ := (h.own _ hx).1 rfl
  refine h.quiet (k := 0) _ rfl h.n0 (Nat.le_refl _) (fun _ => ⟨fun e => (by cases e), fun _ e => (by cases e), fun _ _ => ⟨h3, Nat.zero_le _, fun _ => h4, ?_, ?_, ?_, ?_, ?_, ?_, ?_, ?_⟩⟩) (fun e => absurd rfl e) (fun e => absurd rfl e)
  all_goals (dsimp only; intros; omega)
theorem DHI_steal (h : Dq.DHI nc rm cs pu next m ws P T) (hk : 0 < k) (hkn : k < nc) (c : Nat) : Dq.DHI nc rm (cs.set k ⟨k, true, false, c, 0, 0, 0, 0⟩) pu next m ws P T := by
  refine h.quiet (k := k) _ rfl hkn (Nat.le_refl _) (fun e => by omega) (fun _ => rfl) (fun _ _ => ⟨rfl, Nat.zero_le _, ?_, ?_, ?_, ?_⟩)
  all_goals (dsimp only; intros; omega)
end deq
theorem SHI_off {nc rm : Nat} {cs : List Sp.SK} {ws P : List Int} {k : Nat} {z : Sp.SK} (h : Sp.SHI nc rm (cs.set k z) ws P none) (hk : k < cs.length) : Sp.SHI nc rm (cs.set k (offS k)) ws P none := by
  have hx : (cs.set k z)[k]? = some z := Dq.set_eq hk
  have := h.upd hx (.inl rfl) (.inl rfl) (offS k) rfl (fun e => by cases e) (fun e => by cases e) h.wl h.pl h.pn h.pa h.lk
  rwa [List.set_set] at this
def tkOf (w : Int) : TK := ⟨(w.toNat - 1) % 65536, (w.toNat - 1) / 65536 % 4096, (w.toNat - 1) / 268435456⟩
theorem tkOf_pk {x : TK} (h : x.Ok) : tkOf ((pkT x : Nat) : Int) = x := by
  have h1 := h.a1; have h2 := h.ft; have h3 := h.t1
  obtain ⟨a, f, t⟩ := x
  dsimp only at h1 h2 h3
  unfold tkOf pkT
  dsimp only
  rw [Int.toNat_natCast]
  congr 1 <;> omega
def lenW (w : Int) : Nat := (tkOf w).t - (tkOf w).f
theorem lenW_pk {x : TK} (h : x.Ok) : lenW ((pkT x : Nat) : Int) = x.t - x.f := by unfold lenW; rw [tkOf_pk h]
def clN : CL → Nat
  | .none => 0
  | .dq _ y => y.s
  | .sp y => y.s
def clW : CL → Int
  | .none => 0
  | .dq _ y => y.word
  | .sp y => y.word
def vt (tn : Nat) : Nat := if tn = 0 then 10 else 9
def base (x : WK) : Nat := match x.st with
  | 0 => 10
  | 1 => 9
  | 2 => 200 * lenW x.push + (20 - clN x.cl) + vt x.tn
  | 3 => if clN x.cl ≤ 3 then 200 * lenW x.push + (15 - clN x.cl) + vt x.tn else 1 + vt x.tn
  | 4 => 9
  | 5 => 8 - clN x.cl
  | 7 => if clN x.cl = 4 then 200 * lenW (clW x.cl) + 9 else 0
  | _ => 0
theorem base0 {x : WK} (h : x.st = 0) : base x = 10 := by unfold base; rw [h]; rfl
theorem base1 {x : WK} (h : x.st = 1) : base x = 9 := by unfold base; rw [h]; rfl
theorem base2 {x : WK} (h : x.st = 2) : base x = 200 * lenW x.push + (20 - clN x.cl) + vt x.tn := by unfold base; rw [h]; rfl
theorem base3 {x : WK} (h : x.st = 3) (h3 : clN x.cl ≤ 3) : base x = 200 * lenW x.push + (15 - clN x.cl) + vt x.tn := by unfold base; rw [h]; exact if_pos h3
theorem base3' {x : WK} (h : x.st = 3) (h3 : ¬ clN x.cl ≤ 3) : base x = 1 + vt x.tn := by unfold base; rw [h]; exact if_neg h3
theorem base4 {x : WK} (h : x.st = 4) : base x = 9 := by unfold base; rw [h]; rfl
theorem base6 {x : WK} (h : x.st = 6) : base x = 0 := by unfold base; rw [h]; rfl
theorem base7 {x : WK} (h : x.st = 7) (h4 : clN x.cl ≠ 4) : base x = 0 := by unfold base; rw [h]; exact if_neg h4
theorem base7' {x : WK} (h : x.st = 7) (h4 : clN x.cl = 4) : base x = 200 * lenW (clW x.cl) + 9 := by unfold base; rw [h]; exact if_pos h4
theorem base8 {x : WK} (h : 8 ≤ x.st) : base x = 0 := by
  unfold base
  split <;> first | omega | rfl
theorem base_tn {x : WK} (h : x.st = 0 ∨ x.st = 1 ∨ x.st = 4) : base x = vt x.st := by
  rcases h with h | h | h
  · rw [base0 h, h]; rfl
  · rw [base1 h, h]; rfl
  · rw [base4 h, h]; rfl
def phi (x : WK) : Nat := 3 * (x.to - x.at_) + (x.x.t - x.x.f) + base x
def phiP (c : Nat) (l : List Int) : Nat := (l.map fun w => 200 * lenW w + c).sum
def phiO (os : List RO) (ms : List Nat) : Nat := (os.map fun o => if bitB ms o.i then 0 else if o.p = 0 then 0 else 200 * o.p.toNat + 30).sum
def Phi (os : List RO) (R part : Nat) (s : MS) : Nat := phiO os s.ms + (s.D.map fun q => phiP 12 q.P).sum + phiP 10 s.sP + 3 * (R - s.nc * part) + (s.X.map phi).sum
theorem phiP_app {c : Nat} {a b : List Int} : phiP c (a ++ b) = phiP c a + phiP c b := by unfold phiP; rw [List.map_append, List.sum_append]
theorem phiP_one {c : Nat} {w : Int} : phiP c [w] = 200 * lenW w + c := by unfold phiP; simp
theorem phiP_perm {c : Nat} {a b : List Int} (h : a.Perm b) : phiP c a = phiP c b := perm_sum (h.map _)
theorem phiP_cons {c : Nat} {w : Int} {l : List Int} : phiP c (w :: l) = 200 * lenW w + c + phiP c l := by unfold phiP; simp
def MS.go (s : MS) (w d : Nat) (x' : WK) (q' : DQ) (ms' : List Nat) (nc' : Nat) (sw' sP' : List Int) (sL' : Option Nat) (tv' m' : Nat) : MS := ⟨s.X.set w x', s.D.set d q', ms', nc', sw', sP', sL', tv', m'⟩
theorem Phi_go {os : List RO} {R part : Nat} {s : MS} {w d : Nat} {x x' : WK} {q q' : DQ} (hx : s.X[w]? = some x) (hq : s.D[d]? = some q) {ms' : List Nat} {nc' : Nat} {sw' sP' : List Int} {sL' : Option Nat} {tv' m' : Nat} :
    Phi os R part (s.go w d x' q' ms' nc' sw' sP' sL' tv' m') + (phiO os s.ms + phiP 12 q.P + phiP 10 s.sP + 3 * (R - s.nc * part) + phi x) = Phi os R part s + (phiO os ms' + phiP 12 q'.P + phiP 10 sP' + 3 * (R - nc' * part) + phi x') := by
  have h1 := sum_set (f := phi) (x' := x') hx
  have h2 := sum_set (f := fun q : DQ => phiP 12 q.P) (x' := q') hq
  unfold Phi MS.go
  dsimp only at h2 ⊢
  omega
end Go.Proofs.YtfmkjbmogfhpbaaGreatDoor.Mk
set_option maxRecDepth 8000
namespace Go.Proofs.YtfmkjbmogfhpbaaGreatDoor.Mk
open Go.Sep
theorem idx_int {W k d : Nat} (hk : k < W) (hd : d < W) : ((k : Int) - (d : Int) + (W : Int)) % (W : Int) = (idx W k d : Nat) := by
  unfold idx
  by_cases e : d ≤ k
  · rw [if_pos e, show (k : Int) - d + W = ((k - d : Nat) : Int) + W by omega, Int.add_emod_right, Int.emod_eq_of_lt (by omega) (by omega)]
  · rw [if_neg e, show (k : Int) - d + W = ((k + W - d : Nat) : Int) by omega, Int.emod_eq_of_lt (by omega) (by omega)]
theorem OK_exP {C : Ctx} {g : Regs} {α : Type} {Q : α → Prop} {pp : α → List HP} {r : List HP} {o : Op} {v : Value} (h : ∀ x, Q x → OpK C g (pp x ++ r) o v) : OpK C g (exP Q pp :: r) o v :=
  ⟨fun dst ty pos af gd a hf w hs => by
    obtain ⟨x, q, hs'⟩ := Sat.exP hs
    exact (h x q).out dst ty pos af gd a hf w hs'⟩
section ops
variable {pM p pr pk pp po c dc wc W : Nat} {da wa : Option Addr} {tv sv draw at_ to tA tF tT push victim low seen : Int} {next then_ call : Value} {scans : Bool} {chunk : Int}
theorem id_spec (k d : Nat) (hk : k < W) (hd : d < W) (hW : W ≤ 64) : Does Tryz.prog 146 [ptr pM 0, .int .i64 k, .int .i64 d] [mkB pM p pr pk pp po da W dc wa W wc chunk tv sv]
    (fun v l => v = .int .i64 (idx W k d : Nat) ∧ l = [mkB pM p pr pk pp po da W dc wa W wc chunk tv sv]) := by
  refine Does.of tiok Tryz.func146 (by kernel_rfl) rfl Tryz.ntmps146 rfl ?_
  intro W' fr
  repeat' (first | refine Wka ?_ | intro _ | apply And.intro)
  refine J_draw [0, 0, 0, 0, 0, 0, 1, 0, 0, 0, 0, 0, 1, 0, 0, 0] (List.range 16) (by kernel_rfl) (by kernel_rfl) ?_
  repeat' (first | refine Wkd ?_ | intro _ | apply And.intro)
  rw [idx_int hk hd]
  repeat' (first | refine Wka ?_ | intro _ | apply And.intro)
  exact At_ret rfl rfl (.tmp rfl .nil) rfl (is := [0]) rfl ⟨rfl, rfl⟩
theorem load_spec {R : HP} {cs : List Value} {dq pc bw rm : Nat} {ws : List Int} {was : Int} (k d m : Nat) (hk : k < W) (hd : d < W) (hW : W ≤ 64) (hRd : Reads R 1 W da dc cs) (hdq : cs[d]? = some (ptr dq 0)) (hw : ws[m]? = some was) (hwl : ws.length ≤ 65536) (ht : In64 (tv + 1)) :
    Does Tryz.prog 200 [ptr pM 0, .int .i64 k, .int .i64 d, .int .i64 m] (mkB pM p pr pk pp po da W dc wa W wc chunk tv sv :: R :: deqZ dq pc bw ws rm)
    (fun v l => v = .int .i64 was ∧ l = mkB pM p pr pk pp po da W dc wa W wc chunk (tv + 1) sv :: R :: deqZ dq pc bw ws rm) := by
  obtain ⟨ht1, ht2⟩ := ht
  have hil := idx_lt hk hd
  refine Does.of tiok Tryz.func200 (by kernel_rfl) rfl Tryz.ntmps200 rfl ?_
  intro W' fr
  refine J_fact _ (fun w hs => hRd.some (by omega) hs Mmt) ?_
  rintro ⟨bo, oo, rfl⟩
  repeat' (first | refine Wka ?_ | intro _ | apply And.intro)
  refine JO_val (OV_idx (off := oo + d) rfl rfl rfl rfl (by omega) (by omega) (by omega)) rfl rfl ?_
  refine JO_q (OQ_read (i := d) (v := ptr dq 0) hRd Mmt rfl rfl (by omega) hdq) rfl rfl ?_
  repeat' (first | refine Wka ?_ | intro _ | apply And.intro)
  refine JO_l (OL_call [2, 2] rfl rfl rfl deqCells rfl) rfl rfl ?_
  rintro _ _ ⟨_, ⟨rfl, rfl⟩, rfl⟩
  repeat' (first | refine Wka ?_ | intro _ | apply And.intro)
  refine JO_l (OL_call [2] rfl rfl rfl (id_spec k d hk hd hW) rfl) rfl rfl ?_
  rintro _ _ ⟨_, ⟨rfl, rfl⟩, rfl⟩
  repeat' (first | refine Wka ?_ | intro _ | apply And.intro)
  refine JO_l (OL_call [2] rfl rfl rfl (Load_z (idx W k d : Nat) was m (by omega) (by omega) hw hwl) rfl) rfl rfl ?_
  rintro _ _ ⟨_, ⟨rfl, rfl⟩, rfl⟩
  repeat' (first | refine Wka ?_ | intro _ | apply And.intro)
  exact At_ret rfl rfl (.tmp rfl .nil) rfl (is := [0, 2, 1, 0]) rfl ⟨rfl, rfl⟩
theorem steal_one {who : Int} (hW : W = 1) : Does Tryz.prog 123 [ptr c 0] [wkB c pM who draw next at_ to tA tF tT scans push then_ call victim low seen, mkB pM p pr pk pp po da W dc wa W wc chunk tv sv]
    (fun v l => v = .tuple #[] ∧ l = [wkB c pM who draw (fnV 144) at_ to tA tF tT scans push then_ call victim low seen, mkB pM p pr pk pp po da W dc wa W wc chunk tv sv]) := by
  subst hW
  refine Does.of tiok Tryz.func123 (by kernel_rfl) rfl Tryz.ntmps123 rfl ?_
  intro W' fr
  repeat' (first | refine Wka ?_ | intro _ | apply And.intro)
  exact At_end rfl rfl .nil rfl (is := [0, 0]) rfl ⟨rfl, rfl⟩
set_option maxHeartbeats 4000000 in
theorem steal_more {R : HP} {cs : List Value} (i dq : Nat) (K : Nat) (hK : 1 ≤ K) (hK2 : K ≤ 65536) (hW : 2 ≤ W) (hRd : Reads R 1 W da dc cs) (hd : cs[i]? = some (ptr dq 0)) (hi : i < W) (ht : In64 (tv + 1)) {cc : Nat} {D : List HP} {Pm : Nat → List HP → Prop} {Pn : List HP → Prop} {Pt : TK → List HP → Prop}
    (hC : Calls 229 228 cc D (Pm cc) Pn Pt) :
    Does Tryz.prog 123 [ptr c 0] (wkB c pM i draw next at_ to tA tF tT scans push then_ (dqI cc) victim low seen :: mkB pM p pr pk pp po da W dc wa W wc K tv sv :: R :: D)
    (tryP dqI c pM i draw next at_ to tA tF tT scans push then_ victim low seen (mkB pM p pr pk pp po da W dc wa W wc K (tv + 1) sv) R dq K 144 Pm Pn Pt) := by
  refine Does.of tiok Tryz.func123 (by kernel_rfl) rfl Tryz.ntmps123 rfl ?_
  intro W' fr
  repeat' (first | refine Wka ?_ | intro _ | apply And.intro)
  refine JO_val (OV_ifaceEq rfl Tryz.underlying161) rfl rfl ?_
  repeat' (first | refine Wka ?_ | intro _ | apply And.intro)
  refine JO_l (OL_callP (r := []) rfl rfl rfl (try_spec (c := c) (draw := draw) (next := next) (at_ := at_) (to := to) (tA := tA) (tF := tF) (tT := tT) (scans := scans) (push := push) (then_ := then_) (victim := victim) (low := low) (seen := seen) i dq K hK hK2 hRd hd hi ht 144 hC) (by rw [List.append_nil])) rfl rfl ?_
  rintro _ _ ⟨l1, ⟨rfl, hB⟩, rfl⟩
  repeat' (first | refine Wka ?_ | intro _ | apply And.intro)
  exact At_end' rfl rfl .nil rfl (fun H hl => by rw [List.append_nil] at hl; exact hl) ⟨rfl, hB⟩
def vicI (W i : Nat) (draw : Int) : Nat := (((i : Int) + 1 + (IntKind.wrap .u64 draw) % (IntKind.wrap .u64 ((W : Int) - 1))) % (W : Int)).toNat
theorem vic_ok {W i : Nat} {draw : Int} (hW : 2 ≤ W) (hW2 : W ≤ 64) (hi : i < W) : (((i : Int) + 1 + (IntKind.wrap .u64 draw) % (IntKind.wrap .u64 ((W : Int) - 1))) % (W : Int)) = (vicI W i draw : Nat) ∧ vicI W i draw < W ∧ vicI W i draw ≠ i ∧
    0 ≤ IntKind.wrap .u64 draw ∧ IntKind.wrap .u64 ((W : Int) - 1) = (W : Int) - 1 ∧ 0 ≤ (IntKind.wrap .u64 draw) % (IntKind.wrap .u64 ((W : Int) - 1)) ∧ (IntKind.wrap .u64 draw) % (IntKind.wrap .u64 ((W : Int) - 1)) < (W : Int) - 1 := by
  have e1 : IntKind.wrap .u64 ((W : Int) - 1) = (W : Int) - 1 := by
    show ((W : Int) - 1) % 18446744073709551616 = _
    omega
  have e2 : 0 ≤ IntKind.wrap .u64 draw := by
    show 0 ≤ draw % 18446744073709551616
    omega
  unfold vicI
  rw [e1]
  generalize IntKind.wrap .u64 draw = u at e2
  have h1 := Int.emod_nonneg u (show (W : Int) - 1 ≠ 0 by omega)
  have h2 := Int.emod_lt_of_pos u (show (0 : Int) < (W : Int) - 1 by omega)
  generalize u % ((W : Int) - 1) = r at h1 h2
  have h3 := Int.emod_nonneg ((i : Int) + 1 + r) (show (W : Int) ≠ 0 by omega)
  have h4 := Int.emod_lt_of_pos ((i : Int) + 1 + r) (show (0 : Int) < (W : Int) by omega)
  have h5 : ((i : Int) + 1 + r) % (W : Int) = if (i : Int) + 1 + r < W then (i : Int) + 1 + r else (i : Int) + 1 + r - W := by
    by_cases e : (i : Int) + 1 + r < W
    · rw [if_pos e, Int.emod_eq_of_lt (by omega) e]
    · rw [if_neg e, ← Int.sub_emod_right, Int.emod_eq_of_lt (by omega) (by omega)]
  refine ⟨by omega, by omega, ?_, e2, rfl, h1, h2⟩
  rw [h5]
  split <;> omega
set_option maxHeartbeats 8000000 in
theorem steal_new {R : HP} {cs : List Value} (i dq : Nat) (K : Nat) (hK : 1 ≤ K) (hK2 : K ≤ 65536) (hW : 2 ≤ W) (hW2 : W ≤ 64) (hRd : Reads R 1 W da dc cs) (hd : cs[i]? = some (ptr dq 0)) (hi : i < W) (ht : In64 (tv + 1)) {D : List HP} {Pm : Nat → List HP → Prop} {Pn : List HP → Prop} {Pt : TK → List HP → Prop} {dv : Nat} (hdv : cs[vicI W i draw]? = some (ptr dv 0))
    (hC : ∀ cc, Calls 229 228 cc (dcL cc dv (idx W i (vicI W i draw) : Nat) (nx 167) 0 0 0 0 :: D) (Pm cc) Pn Pt) :
    Does Tryz.prog 123 [ptr c 0] (wkB c pM i draw next at_ to tA tF tT scans push then_ .nilIface victim low seen :: mkB pM p pr pk pp po da W dc wa W wc K tv sv :: R :: D)
    (tryP dqI c pM i draw next at_ to tA tF tT scans push then_ victim low seen (mkB pM p pr pk pp po da W dc wa W wc K (tv + 1) sv) R dq K 144 Pm Pn Pt) := by
  obtain ⟨v1, v2, v3, v4, v5, v6, v7⟩ := vic_ok (draw := draw) hW hW2 hi
  have hil := idx_lt hi v2
  have hi0 := idx_zero hi v2
  refine Does.of tiok Tryz.func123 (by kernel_rfl) rfl Tryz.ntmps123 rfl ?_
  intro W' fr
  refine J_fact _ (fun w hs => hRd.some (by omega) hs Mmt) ?_
  rintro ⟨bo, oo, rfl⟩
  repeat' (first | refine Wka ?_ | intro _ | apply And.intro)
  refine JO_val (OV_nilEq rfl Tryz.underlying161) rfl rfl ?_
  repeat' (first | refine Wka ?_ | intro _ | apply And.intro)
  refine J_draw [0, 0, 0, 1, 0, 0, 0, 0, 1, 0, 0, 0, 0, 0, 0, 0, 0, 0, 0] (List.range 19) (by kernel_rfl) (by kernel_rfl) ?_
  repeat' (first | refine Wkd ?_ | intro _ | apply And.intro)
  rw [v1]
  repeat' (first | refine Wka ?_ | intro _ | apply And.intro)
  refine J_drawk [exP (fun _ : Value => True) (fun y => [wkB c pM i draw next at_ to tA tF tT scans push then_ y victim low seen]), mkB pM p pr pk pp po (some ⟨bo, oo, none⟩) W dc wa W wc K tv sv, R] (fun H hl => (exP_in .nilIface trivial hl).left (l := [_, _, _]) (l' := D)) [0, 0, 0, 0, 5, 0, 0, 5, 0, 0, 5, 0, 0, 0, 5, 0, 0, 0, 5, 0, 2, 2, 0, 0, 0, 0, 0, 0, 2] (List.range 29) (by kernel_rfl) (by kernel_rfl) ?_
  repeat' (first | refine Wke ?_ | intro _ | apply And.intro)
  refine JX_kept rfl rfl (OK_exP fun y _ => OK_load rfl rfl (.head _) (by rfl)) rfl rfl ?_
  repeat' (first | refine Wke ?_ | intro _ | apply And.intro)
  refine JX_val rfl rfl (OV_idx (off := oo + vicI W i draw) rfl rfl rfl rfl (by omega) (by omega) (by omega)) rfl rfl ?_
  refine JX_kept rfl rfl (OK_read (i := vicI W i draw) (v := ptr dv 0) hRd Mmt rfl rfl (by omega) hdv) rfl rfl ?_
  repeat' (first | refine Wke ?_ | intro _ | apply And.intro)
  refine JX_kept rfl rfl (OK_exP fun y _ => OK_load rfl rfl (.head _) (by rfl)) rfl rfl ?_
  repeat' (first | refine Wke ?_ | intro _ | apply And.intro)
  refine JX_kept rfl rfl (OK_exP fun y _ => OK_load rfl rfl (.head _) (by rfl)) rfl rfl ?_
  repeat' (first | refine Wke ?_ | intro _ | apply And.intro)
  refine JX_lk rfl rfl (OL_call [1] rfl rfl rfl (id_spec i (vicI W i draw) hi v2 hW2) rfl) rfl rfl ?_ ?_
  · rintro _ _ ⟨_, ⟨rfl, rfl⟩, rfl⟩ H hl
    exact (exP_in (r := [_, _]) .nilIface trivial (hl.perm (picks_perm (is := [1, 0, 0]) rfl)).left)
  rintro _ _ ⟨_, ⟨rfl, rfl⟩, rfl⟩ _
  repeat' (first | refine Wke ?_ | intro _ | apply And.intro)
  refine JX_lk rfl rfl (OL_call [] rfl rfl rfl (Steal_ok (who := (idx W i (vicI W i draw) : Nat)) (by omega)) rfl) rfl rfl ?_ ?_
  · rintro _ _ ⟨_, ⟨cc, rfl, rfl⟩, rfl⟩ H hl
    exact (exP_in (r := [_, _]) .nilIface trivial (hl.perm (picks_perm (is := [2, 1, 1]) rfl)).left)
  rintro _ _ ⟨_, ⟨cc, rfl, rfl⟩, rfl⟩ _
  repeat' (first | refine Wke ?_ | intro _ | apply And.intro)
  refine JX_val rfl rfl (OV_iface rfl Tryz.underlying231) rfl rfl ?_
  repeat' (first | refine Wke ?_ | intro _ | apply And.intro)
  refine JX_l0k rfl rfl (OL_store (i := 2) rfl rfl rfl rfl rfl rfl rfl (by rfl)) rfl ?_ ?_
  · rintro _ _ rfl H hl
    exact (exP_in (r := [_, _]) (dqI cc) trivial (hl.perm (picks_perm (is := [0, 1, 1]) rfl)).left)
  rintro _ _ rfl _
  repeat' (first | refine Wke ?_ | intro _ | apply And.intro)
  repeat' (first | refine Wka ?_ | intro _ | apply And.intro)
  refine JO_hp (l' := wkB c pM i draw next at_ to tA tF tT scans push then_ (dqI cc) victim low seen :: mkB pM p pr pk pp po (some ⟨bo, oo, none⟩) W dc wa W wc K tv sv :: R :: dcL cc dv (idx W i (vicI W i draw) : Nat) (nx 167) 0 0 0 0 :: D) (fun H hl => hl.perm (picks_perm (is := [0, 1, 1]) rfl)) ?_
  refine JO_l (OL_callP (r := []) rfl rfl rfl (try_spec (c := c) (draw := draw) (next := next) (at_ := at_) (to := to) (tA := tA) (tF := tF) (tT := tT) (scans := scans) (push := push) (then_ := then_) (victim := victim) (low := low) (seen := seen) i dq K hK hK2 hRd hd hi ht 144 (hC cc)) (by rw [List.append_nil])) rfl rfl ?_
  rintro _ _ ⟨l1, ⟨rfl, hB⟩, rfl⟩
  repeat' (first | refine Wka ?_ | intro _ | apply And.intro)
  exact At_end' rfl rfl .nil rfl (fun H hl => by rw [List.append_nil] at hl; exact hl) ⟨rfl, hB⟩
end ops
end Go.Proofs.YtfmkjbmogfhpbaaGreatDoor.Mk
set_option maxRecDepth 8000
namespace Go.Proofs.YtfmkjbmogfhpbaaGreatDoor.Mk
open Go.Sep
section ops
variable {pM p pr pk pp po c dc wc W : Nat} {da wa : Option Addr} {tv sv draw at_ to tA tF tT push victim low seen : Int} {next then_ call : Value} {scans : Bool} {chunk : Int}
set_option maxHeartbeats 8000000 in
theorem take_more {R : HP} {cs : List Value} (i dq : Nat) (K : Nat) (hK : 1 ≤ K) (hK2 : K ≤ 65536) (hRd : Reads R 1 W da dc cs) (hd : cs[i]? = some (ptr dq 0)) (hi : i < W) (ht : In64 (tv + 1)) {cc : Nat} {D : List HP} {Pm : Nat → List HP → Prop} {Pn : List HP → Prop} {Pt : TK → List HP → Prop}
    (hC : Calls 232 231 cc D (Pm cc) Pn Pt) :
    Does Tryz.prog 144 [ptr c 0] (wkB c pM i draw next at_ to tA tF tT scans push then_ (spI cc) victim low seen :: mkB pM p pr pk pp po da W dc wa W wc K tv sv :: R :: D)
    (tryP spI c pM i draw next at_ to tA tF tT scans push then_ victim low seen (mkB pM p pr pk pp po da W dc wa W wc K (tv + 1) sv) R dq K 166 Pm Pn Pt) := by
  obtain ⟨ht1, ht2⟩ := ht
  obtain ⟨Pd, hS, hR⟩ := hC.st
  refine Does.of tiok Tryz.func144 (by kernel_rfl) rfl Tryz.ntmps144 rfl ?_
  intro W' fr
  repeat' (first | refine Wka ?_ | intro _ | apply And.intro)
  refine JO_val (OV_ifaceEq rfl Tryz.underlying161) rfl rfl ?_
  repeat' (first | refine Wka ?_ | intro _ | apply And.intro)
  refine JO_l (OL_invokeP (r := [mkB pM p pr pk pp po da W dc wa W wc K (tv + 1) sv, wkB c pM i draw next at_ to tA tF tT scans push then_ (spI cc) victim low seen, R]) rfl rfl (by kernel_rfl) Tryz.underlying265 hS (List.perm_append_comm (l₁ := [_, _, _]))) rfl rfl ?_
  rintro _ _ ⟨D', ⟨rfl, hP⟩ | ⟨rfl, hP⟩, rfl⟩
  · refine JO_hp (l' := wkB c pM i draw next at_ to tA tF tT scans push then_ (spI cc) victim low seen :: mkB pM p pr pk pp po da W dc wa W wc K (tv + 1) sv :: R :: D') (fun H hl => hl.perm ((List.perm_append_comm (l₂ := [_, _, _])).trans (List.Perm.swap _ _ _))) ?_
    repeat' (first | refine Wka ?_ | intro _ | apply And.intro)
    exact At_end' rfl rfl .nil rfl (fun H hl => hl) ⟨rfl, D', .inl ⟨cc, hP, rfl⟩⟩
  · refine JO_hp (l' := wkB c pM i draw next at_ to tA tF tT scans push then_ (spI cc) victim low seen :: mkB pM p pr pk pp po da W dc wa W wc K (tv + 1) sv :: R :: D') (fun H hl => hl.perm ((List.perm_append_comm (l₂ := [_, _, _])).trans (List.Perm.swap _ _ _))) ?_
    obtain ⟨w, e, hRR, hE⟩ := hR D' hP
    repeat' (first | refine Wka ?_ | intro _ | apply And.intro)
    refine JO_l (OL_invokeP (r := [wkB c pM i draw next at_ to tA tF tT scans push then_ (spI cc) victim low seen, mkB pM p pr pk pp po da W dc wa W wc K (tv + 1) sv, R]) rfl rfl (by kernel_rfl) Tryz.underlying265 hRR (List.perm_append_comm (l₁ := [_, _, _]))) rfl rfl ?_
    rintro _ _ ⟨D', ⟨rfl, rfl⟩, rfl⟩
    refine JO_hp (l' := wkB c pM i draw next at_ to tA tF tT scans push then_ (spI cc) victim low seen :: mkB pM p pr pk pp po da W dc wa W wc K (tv + 1) sv :: R :: D') (fun H hl => hl.perm (List.perm_append_comm (l₂ := [_, _, _]))) ?_
    rcases hE with ⟨he, hn⟩ | ⟨rfl, x, hx, rfl, hx2⟩
    · repeat' (first | refine Wka ?_ | intro _ | apply And.intro)
      exact At_end' rfl rfl .nil rfl (fun H hl => hl) ⟨rfl, D', .inr (.inl ⟨hn, rfl⟩)⟩
    · repeat' (first | refine Wka ?_ | intro _ | apply And.intro)
      refine JO_l (OL_callP (r := []) rfl rfl rfl (begin_any (x := x) i dq K hK hK2 hx hRd hd hi D') (by rw [List.append_nil])) rfl rfl ?_
      rintro _ _ ⟨l1, ⟨rfl, hB⟩, rfl⟩
      repeat' (first | refine Wka ?_ | intro _ | apply And.intro)
      exact At_end' rfl rfl .nil rfl (fun H hl => by rw [List.append_nil] at hl; exact hl) ⟨rfl, D', .inr (.inr ⟨x, hx2, hB⟩)⟩
set_option maxHeartbeats 8000000 in
theorem take_new {R : HP} {cs : List Value} (i dq : Nat) (K : Nat) (hK : 1 ≤ K) (hK2 : K ≤ 65536) (hRd : Reads R 1 W da dc cs) (hd : cs[i]? = some (ptr dq 0)) (hi : i < W) (hW : W ≤ 64) (ht : In64 (tv + 1)) {D : List HP} {Pm : Nat → List HP → Prop} {Pn : List HP → Prop} {Pt : TK → List HP → Prop}
    (hC : ∀ cc, Calls 232 231 cc (Sp.scL cc pp i false 0 0 0 false 0 :: D) (Pm cc) Pn Pt) :
    Does Tryz.prog 144 [ptr c 0] (wkB c pM i draw next at_ to tA tF tT scans push then_ .nilIface victim low seen :: mkB pM p pr pk pp po da W dc wa W wc K tv sv :: R :: D)
    (tryP spI c pM i draw next at_ to tA tF tT scans push then_ victim low seen (mkB pM p pr pk pp po da W dc wa W wc K (tv + 1) sv) R dq K 166 Pm Pn Pt) := by
  obtain ⟨ht1, ht2⟩ := ht
  refine Does.of tiok Tryz.func144 (by kernel_rfl) rfl Tryz.ntmps144 rfl ?_
  intro W' fr
  repeat' (first | refine Wka ?_ | intro _ | apply And.intro)
  refine JO_val (OV_nilEq rfl Tryz.underlying161) rfl rfl ?_
  repeat' (first | refine Wka ?_ | intro _ | apply And.intro)
  refine J_draw [0, 0, 0, 0, 1, 0, 0, 1, 0, 0, 0, 1, 2, 0, 0, 0, 0, 0, 0, 2] (List.range 20) (by kernel_rfl) (by kernel_rfl) ?_
  repeat' (first | refine Wkd ?_ | intro _ | apply And.intro)
  refine JX_l rfl rfl (OL_call [] rfl rfl rfl (Sp.Take_ok i (by omega)) rfl) rfl rfl ?_
  rintro _ _ ⟨_, ⟨cc, rfl, rfl⟩, rfl⟩
  repeat' (first | refine Wkd ?_ | intro _ | apply And.intro)
  refine JX_val rfl rfl (OV_iface rfl Tryz.underlying265) rfl rfl ?_
  repeat' (first | refine Wkd ?_ | intro _ | apply And.intro)
  obtain ⟨Pd, hS, hR⟩ := (hC cc).st
  repeat' (first | refine Wka ?_ | intro _ | apply And.intro)
  refine JO_hp (l' := (Sp.scL cc pp i false 0 0 0 false 0 :: D) ++ [mkB pM p pr pk pp po da W dc wa W wc K (tv + 1) sv, wkB c pM i draw next at_ to tA tF tT scans push then_ (spI cc) victim low seen, R]) (fun H hl => hl.perm ((picks_perm (is := [2, 0, 0, 0]) rfl).trans (.cons _ (List.perm_append_comm (l₁ := [_, _, _]))))) ?_
  refine JO_l (OL_invokeP (r := [mkB pM p pr pk pp po da W dc wa W wc K (tv + 1) sv, wkB c pM i draw next at_ to tA tF tT scans push then_ (spI cc) victim low seen, R]) rfl rfl (by kernel_rfl) Tryz.underlying265 hS (.refl _)) rfl rfl ?_
  rintro _ _ ⟨D', ⟨rfl, hP⟩ | ⟨rfl, hP⟩, rfl⟩
  · refine JO_hp (l' := wkB c pM i draw next at_ to tA tF tT scans push then_ (spI cc) victim low seen :: mkB pM p pr pk pp po da W dc wa W wc K (tv + 1) sv :: R :: D') (fun H hl => hl.perm ((List.perm_append_comm (l₂ := [_, _, _])).trans (List.Perm.swap _ _ _))) ?_
    repeat' (first | refine Wka ?_ | intro _ | apply And.intro)
    exact At_end' rfl rfl .nil rfl (fun H hl => hl) ⟨rfl, D', .inl ⟨cc, hP, rfl⟩⟩
  · refine JO_hp (l' := wkB c pM i draw next at_ to tA tF tT scans push then_ (spI cc) victim low seen :: mkB pM p pr pk pp po da W dc wa W wc K (tv + 1) sv :: R :: D') (fun H hl => hl.perm ((List.perm_append_comm (l₂ := [_, _, _])).trans (List.Perm.swap _ _ _))) ?_
    obtain ⟨w, e, hRR, hE⟩ := hR D' hP
    repeat' (first | refine Wka ?_ | intro _ | apply And.intro)
    refine JO_l (OL_invokeP (r := [wkB c pM i draw next at_ to tA tF tT scans push then_ (spI cc) victim low seen, mkB pM p pr pk pp po da W dc wa W wc K (tv + 1) sv, R]) rfl rfl (by kernel_rfl) Tryz.underlying265 hRR (List.perm_append_comm (l₁ := [_, _, _]))) rfl rfl ?_
    rintro _ _ ⟨D', ⟨rfl, rfl⟩, rfl⟩
    refine JO_hp (l' := wkB c pM i draw next at_ to tA tF tT scans push then_ (spI cc) victim low seen :: mkB pM p pr pk pp po da W dc wa W wc K (tv + 1) sv :: R :: D') (fun H hl => hl.perm (List.perm_append_comm (l₂ := [_, _, _]))) ?_
    rcases hE with ⟨he, hn⟩ | ⟨rfl, x, hx, rfl, hx2⟩
    · repeat' (first | refine Wka ?_ | intro _ | apply And.intro)
      exact At_end' rfl rfl .nil rfl (fun H hl => hl) ⟨rfl, D', .inr (.inl ⟨hn, rfl⟩)⟩
    · repeat' (first | refine Wka ?_ | intro _ | apply And.intro)
      refine JO_l (OL_callP (r := []) rfl rfl rfl (begin_any (x := x) i dq K hK hK2 hx hRd hd hi D') (by rw [List.append_nil])) rfl rfl ?_
      rintro _ _ ⟨l1, ⟨rfl, hB⟩, rfl⟩
      repeat' (first | refine Wka ?_ | intro _ | apply And.intro)
      exact At_end' rfl rfl .nil rfl (fun H hl => by rw [List.append_nil] at hl; exact hl) ⟨rfl, D', .inr (.inr ⟨x, hx2, hB⟩)⟩
theorem peek_self (i : Nat) (hi : i < W) (hW : W ≤ 64) : Does Tryz.prog 193 [ptr c 0] [wkB c pM i draw next at_ to tA tF tT scans push then_ call i low seen, mkB pM p pr pk pp po da W dc wa W wc chunk tv sv]
    (fun v l => v = .tuple #[] ∧ l = [wkB c pM i draw next at_ to tA tF tT scans push then_ call (i + 1 : Nat) low seen, mkB pM p pr pk pp po da W dc wa W wc chunk tv sv]) := by
  refine Does.of tiok Tryz.func193 (by kernel_rfl) rfl Tryz.ntmps193 rfl ?_
  intro W' fr
  repeat' (first | refine Wka ?_ | intro _ | apply And.intro)
  exact At_end rfl rfl .nil rfl (is := [0, 0]) rfl ⟨rfl, rfl⟩
theorem peek_other {R : HP} {cs : List Value} {dq pc bw rm : Nat} {ws : List Int} {was : Int} (i d : Nat) (hi : i < W) (hd : d < W) (hne : d ≠ i) (hW : W ≤ 64) (hRd : Reads R 1 W da dc cs) (hdq : cs[d]? = some (ptr dq 0)) (hw : ws[0]? = some was) (hwl : ws.length ≤ 65536) (ht : In64 (tv + 1)) :
    Does Tryz.prog 193 [ptr c 0] (wkB c pM i draw next at_ to tA tF tT scans push then_ call d low seen :: mkB pM p pr pk pp po da W dc wa W wc chunk tv sv :: R :: deqZ dq pc bw ws rm)
    (fun v l => v = .tuple #[] ∧ l = wkB c pM i draw (fnV 201) at_ to tA tF tT scans push then_ call d was seen :: mkB pM p pr pk pp po da W dc wa W wc chunk (tv + 1) sv :: R :: deqZ dq pc bw ws rm) := by
  refine Does.of tiok Tryz.func193 (by kernel_rfl) rfl Tryz.ntmps193 rfl ?_
  intro W' fr
  repeat' (first | refine Wka ?_ | intro _ | apply And.intro)
  refine J_draw [0, 0, 0, 0, 1, 0, 0, 0, 1, 0, 0, 0, 1, 2, 0, 0, 2] (List.range 17) (by kernel_rfl) (by kernel_rfl) ?_
  repeat' (first | refine Wkd ?_ | intro _ | apply And.intro)
  refine JX_l rfl rfl (OL_call [1, 1, 1, 1] rfl rfl rfl (load_spec i d 0 hi hd hW hRd hdq hw hwl ht) rfl) rfl rfl ?_
  rintro _ _ ⟨_, ⟨rfl, rfl⟩, rfl⟩
  repeat' (first | refine Wkd ?_ | intro _ | apply And.intro)
  repeat' (first | refine Wka ?_ | intro _ | apply And.intro)
  exact At_end rfl rfl .nil rfl (is := [0, 0, 0, 0, 0]) rfl ⟨rfl, rfl⟩
theorem peek_spill {qpc qbw rS : Nat} {sw : List Int} {n : Int} (i : Nat) (hi : i < 64) (hw : sw[1]? = some n) (hwl : sw.length ≤ 65536) (ht : In64 (tv + 1)) :
    Does Tryz.prog 193 [ptr c 0] (wkB c pM i draw next at_ to tA tF tT scans push then_ call W low seen :: mkB pM p pr pk pp po da W dc wa W wc chunk tv sv :: Sp.spillZ pp qpc qbw sw rS)
    (fun v l => v = .tuple #[] ∧ l = wkB c pM i draw (fnV (if 0 < n then 199 else 183)) at_ to tA tF tT scans push then_ call W low seen :: mkB pM p pr pk pp po da W dc wa W wc chunk (tv + 1) sv :: Sp.spillZ pp qpc qbw sw rS) := by
  obtain ⟨ht1, ht2⟩ := ht
  refine Does.of tiok Tryz.func193 (by kernel_rfl) rfl Tryz.ntmps193 rfl ?_
  intro W' fr
  repeat' (first | refine Wka ?_ | intro _ | apply And.intro)
  refine J_drawk [wkB c pM i draw next at_ to tA tF tT scans push then_ call W low seen, mkB pM p pr pk pp po da W dc wa W wc chunk (tv + 1) sv] (fun H hl => (hl.perm (picks_perm (is := [1, 0]) rfl)).left) [0, 0, 0, 5, 0, 0, 5, 2, 0, 0, 0, 5, 2, 0, 0, 0, 0, 0] [0, 1, 2, 3, 4, 5, 6, 8, 9, 10, 11, 7, 12, 13, 14, 15, 16, 17] (by kernel_rfl) (by kernel_rfl) ?_
  repeat' (first | refine Wke ?_ | intro _ | apply And.intro)
  refine JX_lk rfl rfl (OL_call [2, 2] rfl rfl rfl Sp.Cells_spec rfl) rfl rfl ?_ ?_
  · rintro _ _ ⟨_, ⟨rfl, rfl⟩, rfl⟩ H hl
    exact (hl.perm (picks_perm (is := [3, 2]) rfl)).left
  rintro _ _ ⟨_, ⟨rfl, rfl⟩, rfl⟩ _
  repeat' (first | refine Wke ?_ | intro _ | apply And.intro)
  refine JX_lk rfl rfl (OL_call [1] rfl rfl rfl (Load_z i n 1 (by omega) (by omega) hw hwl) rfl) rfl rfl ?_ ?_
  · rintro _ _ ⟨_, ⟨rfl, rfl⟩, rfl⟩ H hl
    exact (hl.perm (picks_perm (is := [3, 2]) rfl)).left
  rintro _ _ ⟨_, ⟨rfl, rfl⟩, rfl⟩ _
  repeat' (first | refine Wke ?_ | intro _ | apply And.intro)
  repeat' (first | refine Wka ?_ | intro _ | apply And.intro)
  · rw [if_pos (by assumption)]
    exact At_end rfl rfl .nil rfl (is := [0, 2, 1, 0]) rfl ⟨rfl, rfl⟩
  · rw [if_neg (by assumption)]
    exact At_end rfl rfl .nil rfl (is := [0, 2, 1, 0]) rfl ⟨rfl, rfl⟩
theorem peekTop_spec {R : HP} {cs : List Value} {dq pc bw rm : Nat} {ws : List Int} {T : Nat} (i d : Nat) (hi : i < W) (hd : d < W) (hW : W ≤ 64) (hRd : Reads R 1 W da dc cs) (hdq : cs[d]? = some (ptr dq 0)) (hw : ws[1]? = some (T : Int)) (hwl : ws.length ≤ 65536) (ht : In64 (tv + 1)) :
    Does Tryz.prog 201 [ptr c 0] (wkB c pM i draw next at_ to tA tF tT scans push then_ call d low seen :: mkB pM p pr pk pp po da W dc wa W wc chunk tv sv :: R :: deqZ dq pc bw ws rm)
    (fun v l => v = .tuple #[] ∧ l = wkB c pM i draw (fnV (if ((T % 4096 : Nat) : Int) < low then 199 else 193)) at_ to tA tF tT scans push then_ call (d + 1 : Nat) low seen :: mkB pM p pr pk pp po da W dc wa W wc chunk (tv + 1) sv :: R :: deqZ dq pc bw ws rm) := by
  refine Does.of tiok Tryz.func201 (by kernel_rfl) rfl Tryz.ntmps201 rfl ?_
  intro W' fr
  repeat' (first | refine Wka ?_ | intro _ | apply And.intro)
  refine J_draw [0, 0, 0, 1, 0, 0, 0, 1, 0, 0, 0, 1, 2, 0] (List.range 14) (by kernel_rfl) (by kernel_rfl) ?_
  repeat' (first | refine Wkd ?_ | intro _ | apply And.intro)
  refine JX_l rfl rfl (OL_call [1, 1, 1, 1] rfl rfl rfl (load_spec i d 1 hi hd hW hRd hdq hw hwl ht) rfl) rfl rfl ?_
  rintro _ _ ⟨_, ⟨rfl, rfl⟩, rfl⟩
  repeat' (first | refine Wkd ?_ | intro _ | apply And.intro)
  repeat' (first | refine Wka ?_ | intro _ | apply And.intro)
  · rw [if_pos (by omega)]
    exact At_end rfl rfl .nil rfl (is := [0, 0, 0, 0, 0]) rfl ⟨rfl, rfl⟩
  · rw [if_neg (by omega)]
    exact At_end rfl rfl .nil rfl (is := [0, 0, 0, 0, 0]) rfl ⟨rfl, rfl⟩
end ops
open Go.Sep
abbrev bigN : Int := 2000000000000
def HitM (os : List RO) (ms : List Nat) (y : Int) : Prop := y = 0 ∨ ∃ (j : Nat) (o : RO), os[j]? = some o ∧ y = (o.i : Int) + 1 ∧ bitB ms o.i = true
structure TaskIn (os : List RO) (ms : List Nat) (t : TK) : Prop where
  ok : t.Ok
  ob : ∃ (j : Nat) (o : RO), os[j]? = some o ∧ t.a = o.i ∧ (t.t : Int) ≤ o.p ∧ bitB ms o.i = true
def WordOk (os : List RO) (ms : List Nat) (w : Int) : Prop := ∃ t : TK, w = ((pkT t : Nat) : Int) ∧ t.f < t.t ∧ TaskIn os ms t
def es (x : WK) : Nat := if x.st = 2 ∨ x.st = 3 then x.tn else x.st
def WLoc (W : Nat) (x : WK) : Prop := match x.st with
  | 0 => x.cl = .none ∧ x.push = 0
  | 1 => x.cl = .none ∧ x.push = 0
  | 2 => ∃ y, x.cl = .dq x.k y ∧ y.on = true ∧ y.push = true ∧ y.word = x.push ∧ 0 < x.push ∧ (x.tn = 0 ∨ x.tn = 1 ∨ x.tn = 4)
  | 3 => ∃ y, x.cl = .sp y ∧ y.on = true ∧ y.w = x.push ∧ 0 < x.push ∧ (x.tn = 0 ∨ x.tn = 1 ∨ x.tn = 4)
  | 4 => x.cl = .none ∧ x.push = 0
  | 5 => x.push = 0 ∧ (x.cl = .none ∨ ∃ y, x.cl = .dq x.k y ∧ y.on = true ∧ y.push = false)
  | 6 => x.push = 0 ∧ (x.cl = .none ∨ ∃ d y, x.cl = .dq d y ∧ d < W ∧ d ≠ x.k ∧ y.on = true ∧ y.push = false)
  | 7 => x.push = 0 ∧ (x.cl = .none ∨ ∃ y, x.cl = .sp y ∧ y.on = true ∧ y.w = 0)
  | 8 => x.cl = .none ∧ x.push = 0
  | 9 => x.cl = .none ∧ x.push = 0
  | 10 => x.cl = .none ∧ x.push = 0 ∧ x.victim ≤ W ∧ 0 ≤ x.seen ∧ x.seen < W
  | 11 => x.cl = .none ∧ x.push = 0 ∧ x.victim < W ∧ x.victim ≠ x.k ∧ 0 ≤ x.seen ∧ x.seen < W
  | 12 => x.cl = .none ∧ x.push = 0 ∧ 0 ≤ x.seen ∧ x.seen < W
  | _ => False
structure WOk (W R part : Nat) (os : List RO) (ms : List Nat) (nc : Nat) (x : WK) : Prop where
  a1 : x.at_ ≤ x.to
  a2 : x.to ≤ R
  a3 : x.at_ < x.to ↔ es x = 1
  x1 : x.x.Ok
  x2 : x.x.f < x.x.t → es x = 4 ∧ TaskIn os ms x.x
  nr : 4 ≤ es x → R ≤ nc * part
  lo : WLoc W x
theorem TaskIn.up {os : List RO} {ms ms' : List Nat} {t : TK} (h : TaskIn os ms t) (hu : ∀ i, bitB ms i = true → bitB ms' i = true) : TaskIn os ms' t := by
  obtain ⟨h1, j, o, h2, h3, h4, h5⟩ := h
  exact ⟨h1, j, o, h2, h3, h4, hu _ h5⟩
theorem WordOk.up {os : List RO} {ms ms' : List Nat} {w : Int} (h : WordOk os ms w) (hu : ∀ i, bitB ms i = true → bitB ms' i = true) : WordOk os ms' w := by
  obtain ⟨t, h1, h2, h3⟩ := h
  exact ⟨t, h1, h2, h3.up hu⟩
theorem HitM.up {os : List RO} {ms ms' : List Nat} {y : Int} (h : HitM os ms y) (hu : ∀ i, bitB ms i = true → bitB ms' i = true) : HitM os ms' y := by
  rcases h with h | ⟨j, o, h1, h2, h3⟩
  · exact .inl h
  · exact .inr ⟨j, o, h1, h2, hu _ h3⟩
theorem WOk.up {W R part : Nat} {os : List RO} {ms ms' : List Nat} {nc nc' : Nat} {x : WK} (h : WOk W R part os ms nc x) (hu : ∀ i, bitB ms i = true → bitB ms' i = true) (hn : nc ≤ nc') : WOk W R part os ms' nc' x :=
  ⟨h.a1, h.a2, h.a3, h.x1, fun e => ⟨(h.x2 e).1, (h.x2 e).2.up hu⟩, fun e => Nat.le_trans (h.nr e) (Nat.mul_le_mul_right _ hn), h.lo⟩
def takenW : CL → List Int
  | .sp y => if y.w = 0 ∧ y.s = 4 then [y.word] else []
  | _ => []
def hand (x : WK) : List Int := (if x.push = 0 then [] else [x.push]) ++ takenW x.cl
def InW (s : MS) (u : Int) : Prop := (∃ (d : Nat) (q : DQ), s.D[d]? = some q ∧ u ∈ q.P) ∨ u ∈ s.sP ∨ ∃ (j : Nat) (x : WK), s.X[j]? = some x ∧ u ∈ hand x
def InT (s : MS) (t : TK) : Prop := (∃ (j : Nat) (x : WK), s.X[j]? = some x ∧ t = x.x) ∨ ∃ u, InW s u ∧ t = tkOf u
def Covd (A : TK → Prop) (a f : Nat) : Prop := ∃ t, A t ∧ t.a = a ∧ t.f ≤ f ∧ f < t.t
structure MInv (n W rm rS part : Nat) (os : List RO) (rts : List Int) (s : MS) : Prop where
  xl : s.X.length = W
  xk : ∀ (j : Nat) (x : WK), s.X[j]? = some x → x.k = j
  dl : s.D.length = W
  dk : ∀ (d : Nat) (q : DQ), s.D[d]? = some q → q.k = d
  dh : ∀ (d : Nat) (q : DQ), s.D[d]? = some q → ∃ pu, Dq.DHI W rm (dcs W d s.X) pu bigN s.m q.ws q.P q.T
  sh : Sp.SHI W rS (scs s.X) s.sw s.sP s.sL
  mi : MI n s.ms
  wk : ∀ (j : Nat) (x : WK), s.X[j]? = some x → WOk W rts.length part os s.ms s.nc x
  em : ∀ (j : Nat) (x : WK) (q : DQ), s.X[j]? = some x → s.D[j]? = some q → 6 ≤ x.st → q.P = []
  wv : ∀ u, InW s u → WordOk os s.ms u
  cv : ∀ (j : Nat) (o : RO) (f : Nat) (y : Int), os[j]? = some o → bitB s.ms o.i = true → (f : Int) < o.p → o.ws[f]? = some y → HitM os s.ms y ∨ Covd (InT s) o.i f
  rc : ∀ (i : Nat) (y : Int), rts[i]? = some y → HitM os s.ms y ∨ s.nc * part ≤ i ∨ ∃ (j : Nat) (x : WK), s.X[j]? = some x ∧ x.at_ ≤ i ∧ i < x.to
  rd : ∀ i, bitB s.ms i = true → ∃ (j : Nat) (o : RO), os[j]? = some o ∧ o.i = i ∧ Rch os rts j
  sp : s.sP ≠ [] → ∃ (j : Nat) (x : WK), s.X[j]? = some x ∧ x.st ≤ 7
  pi : ∀ (j : Nat) (x : WK) (y : Sp.SK), s.X[j]? = some x → x.cl = .sp y → y.s = 4 → 0 < y.w → y.w ∈ s.sP
  tv : s.tv ≤ s.m
  nm : s.nc ≤ s.m
section go
variable {n W rm rS part : Nat} {os : List RO} {rts : List Int} {s : MS} {w d : Nat} {x x' : WK} {q q' : DQ} {ms' : List Nat} {nc' : Nat} {sw' sP' : List Int} {sL' : Option Nat} {tv' m' : Nat}
theorem set_get {α : Type} {l : List α} {i j : Nat} {v y : α} (h : (l.set i v)[j]? = some y) : (j = i ∧ y = v) ∨ (j ≠ i ∧ l[j]? = some y) := by
  rw [List.getElem?_set] at h
  by_cases e : i = j
  · rw [if_pos e] at h
    split at h
    · injection h with h; exact .inl ⟨e.symm, h.symm⟩
    · cases h
  · rw [if_neg e] at h
    exact .inr ⟨fun e2 => e e2.symm, h⟩
theorem get_set {α : Type} {l : List α} {i : Nat} {v y : α} (h : l[i]? = some y) : (l.set i v)[i]? = some v := Dq.set_eq (List.getElem?_eq_some_iff.1 h).1
def InR (s : MS) (w d : Nat) (u : Int) : Prop := (∃ (e : Nat) (q : DQ), e ≠ d ∧ s.D[e]? = some q ∧ u ∈ q.P) ∨ ∃ (j : Nat) (x : WK), j ≠ w ∧ s.X[j]? = some x ∧ u ∈ hand x
theorem InW_iff (hx : s.X[w]? = some x) (hq : s.D[d]? = some q) {u : Int} : InW s u ↔ InR s w d u ∨ u ∈ q.P ++ s.sP ++ hand x := by
  rw [List.mem_append, List.mem_append]
  constructor
  · rintro (⟨e, q2, h1, h2⟩ | h | ⟨j, x2, h1, h2⟩)
    · by_cases he : e = d
      · subst he; rw [hq] at h1; injection h1 with h1; subst h1; exact .inr (.inl (.inl h2))
      · exact .inl (.inl ⟨e, q2, he, h1, h2⟩)
    · exact .inr (.inl (.inr h))
    · by_cases he : j = w
      · subst he; rw [hx] at h1; injection h1 with h1; subst h1; exact .inr (.inr h2)
      · exact .inl (.inr ⟨j, x2, he, h1, h2⟩)
  · rintro ((⟨e, q2, _, h1, h2⟩ | ⟨j, x2, _, h1, h2⟩) | (h | h) | h)
    · exact .inl ⟨e, q2, h1, h2⟩
    · exact .inr (.inr ⟨j, x2, h1, h2⟩)
    · exact .inl ⟨d, q, hq, h⟩
    · exact .inr (.inl h)
    · exact .inr (.inr ⟨w, x, hx, h⟩)
theorem InR_go {u : Int} : InR (s.go w d x' q' ms' nc' sw' sP' sL' tv' m') w d u ↔ InR s w d u := by
  unfold InR MS.go
  dsimp only
  constructor
  · rintro (⟨e, q2, he, h1, h2⟩ | ⟨j, x2, he, h1, h2⟩)
    · rw [List.getElem?_set_ne (fun h => he h.symm)] at h1; exact .inl ⟨e, q2, he, h1, h2⟩
    · rw [List.getElem?_set_ne (fun h => he h.symm)] at h1; exact .inr ⟨j, x2, he, h1, h2⟩
  · rintro (⟨e, q2, he, h1, h2⟩ | ⟨j, x2, he, h1, h2⟩)
    · exact .inl ⟨e, q2, he, by rw [List.getElem?_set_ne (fun h => he h.symm)]; exact h1, h2⟩
    · exact .inr ⟨j, x2, he, by rw [List.getElem?_set_ne (fun h => he h.symm)]; exact h1, h2⟩
theorem InW_go (hx : s.X[w]? = some x) (hq : s.D[d]? = some q) {u : Int} : InW (s.go w d x' q' ms' nc' sw' sP' sL' tv' m') u ↔ InR s w d u ∨ u ∈ q'.P ++ sP' ++ hand x' := by
  rw [InW_iff (s := s.go w d x' q' ms' nc' sw' sP' sL' tv' m') (get_set hx) (get_set hq), InR_go]
  rfl
def OwnT (x : WK) (l : List Int) (t : TK) : Prop := t = x.x ∨ ∃ u ∈ l, t = tkOf u
theorem MInv.go (h : MInv n W rm rS part os rts s) (hx : s.X[w]? = some x) (hq : s.D[d]? = some q) (x' : WK) (q' : DQ)
    (hk : x'.k = x.k) (hqk : q'.k = q.k) (hd1 : ∃ pu, Dq.DHI W rm (dcs W d (s.X.set w x')) pu bigN m' q'.ws q'.P q'.T) (hd2 : ∀ e, e ≠ d → ∀ k, clD e k x'.cl = clD e k x.cl)
    (hS : Sp.SHI W rS (scs (s.X.set w x')) sw' sP' sL') (hM : MI n ms') (hup : ∀ i, bitB s.ms i = true → bitB ms' i = true) (hnc : s.nc ≤ nc') (hw : WOk W rts.length part os ms' nc' x')
    (he1 : 6 ≤ x'.st → ∀ q0, (s.D.set d q')[w]? = some q0 → q0.P = []) (he2 : d ≠ w → q.P = [] → q'.P = [])
    (hv : ∀ u ∈ q'.P ++ sP' ++ hand x', u ∈ q.P ++ s.sP ++ hand x ∨ WordOk os ms' u)
    (hc1 : ∀ (j : Nat) (o : RO) (f : Nat) (y : Int), os[j]? = some o → (f : Int) < o.p → o.ws[f]? = some y → Covd (OwnT x (q.P ++ s.sP ++ hand x)) o.i f → HitM os ms' y ∨ Covd (OwnT x' (q'.P ++ sP' ++ hand x')) o.i f)
    (hc2 : ∀ i, bitB ms' i = true → bitB s.ms i = true ∨ ∃ (j : Nat) (o : RO), os[j]? = some o ∧ o.i = i ∧ Rch os rts j ∧ ∀ f : Nat, (f : Int) < o.p → Covd (OwnT x' (q'.P ++ sP' ++ hand x')) o.i f)
    (hone : ∀ (j j' : Nat) (o o' : RO), os[j]? = some o → os[j']? = some o' → o.i = o'.i → o = o')
    (hr : ∀ (i : Nat) (y : Int), rts[i]? = some y → (s.nc * part ≤ i ∨ (x.at_ ≤ i ∧ i < x.to)) → HitM os ms' y ∨ nc' * part ≤ i ∨ (x'.at_ ≤ i ∧ i < x'.to))
    (hsp : sP' ≠ [] → x'.st ≤ 7 ∨ ∃ (j : Nat) (y : WK), j ≠ w ∧ s.X[j]? = some y ∧ y.st ≤ 7) (hpi : ∀ y, x'.cl = .sp y → y.s = 4 → 0 < y.w → y.w ∈ sP') (hpi2 : sP' = s.sP ∨ s.sL = some w) (hm : s.m ≤ m') (htv : tv' ≤ m') (hnm : nc' ≤ m') :
    MInv n W rm rS part os rts (s.go w d x' q' ms' nc' sw' sP' sL' tv' m') := by
  have hxl := h.xl
  have hwW : w < W := by have := (List.getElem?_eq_some_iff.1 hx).1; omega
  have hO : ∀ a f, Covd (InT s) a f → Covd (InT (s.go w d x' q' ms' nc' sw' sP' sL' tv' m')) a f ∨ Covd (OwnT x (q.P ++ s.sP ++ hand x)) a f := by
    rintro a f ⟨t, ht, h1⟩
    rcases ht with ⟨j, x2, hj, rfl⟩ | ⟨u, hu, rfl⟩
    · by_cases e : j = w
      · subst e; rw [hx] at hj; injection hj with hj; subst hj
        exact .inr ⟨_, .inl rfl, h1⟩
      · exact .inl ⟨_, .inl ⟨j, x2, by show (s.X.set w x')[j]? = _; rw [List.getElem?_set_ne (fun h => e h.symm)]; exact hj, rfl⟩, h1⟩
    · rcases (InW_iff hx hq).1 hu with hu | hu
      · exact .inl ⟨_, .inr ⟨u, (InW_go hx hq).2 (.inl hu), rfl⟩, h1⟩
      · exact .inr ⟨_, .inr ⟨u, hu, rfl⟩, h1⟩
  have hO2 : ∀ a f, Covd (OwnT x' (q'.P ++ sP' ++ hand x')) a f → Covd (InT (s.go w d x' q' ms' nc' sw' sP' sL' tv' m')) a f := by
    rintro a f ⟨t, ht, h1⟩
    rcases ht with rfl | ⟨u, hu, rfl⟩
    · exact ⟨_, .inl ⟨w, x', get_set hx, rfl⟩, h1⟩
    · exact ⟨_, .inr ⟨u, (InW_go hx hq).2 (.inr hu), rfl⟩, h1⟩
  refine ⟨by simp [MS.go, h.xl], fun j y hj => ?_, by simp [MS.go, h.dl], fun e y hj => ?_, fun e y hj => ?_, hS, hM, fun j y hj => ?_, fun j y q0 hj hq0 h6 => ?_, fun u hu => ?_, fun j o f y hj hb hf hy => ?_, fun i y hi => ?_, fun i hi => ?_, fun hne => ?_, fun j y z hj hz h4 hw0 => ?_, htv, hnm⟩
  · rcases set_get hj with ⟨rfl, rfl⟩ | ⟨_, hj⟩
    · rw [hk]; exact h.xk _ _ hx
    · exact h.xk _ _ hj
  · rcases set_get hj with ⟨rfl, rfl⟩ | ⟨_, hj⟩
    · rw [hqk]; exact h.dk _ _ hq
    · exact h.dk _ _ hj
  · rcases set_get hj with ⟨rfl, rfl⟩ | ⟨hne, hj⟩
    · exact hd1
    · obtain ⟨pu, hp⟩ := h.dh _ _ hj
      have heW : e < W := by have := (List.getElem?_eq_some_iff.1 hj).1; have := h.dl; omega
      refine ⟨pu, ?_⟩
      show Dq.DHI W rm (dcs W e (s.X.set w x')) pu bigN m' y.ws y.P y.T
      rw [dcs_same hwW heW hxl hx (hd2 e hne _)]
      exact DHI_m hp hm
  · rcases set_get hj with ⟨rfl, rfl⟩ | ⟨_, hj⟩
    · exact hw
    · exact (h.wk _ _ hj).up hup hnc
  · rcases set_get hj with ⟨rfl, rfl⟩ | ⟨hne, hj⟩
    · exact he1 h6 q0 hq0
    · have hj2 := hj
      clear hj
      rcases set_get hq0 with ⟨rfl, rfl⟩ | ⟨_, hq3⟩
      · exact he2 hne (h.em _ _ _ hj2 hq h6)
      · exact h.em _ _ _ hj2 hq3 h6
  · rcases (InW_go hx hq).1 hu with hu | hu
    · exact (h.wv u ((InW_iff hx hq).2 (.inl hu))).up hup
    · rcases hv u hu with hu | hu
      · exact (h.wv u ((InW_iff hx hq).2 (.inr hu))).up hup
      · exact hu
  · rcases hc2 _ hb with hb | ⟨j2, o2, h1, h2, h3, h4⟩
    · rcases h.cv j o f y hj hb hf hy with h1 | h1
      · exact .inl (h1.up hup)
      · rcases hO _ _ h1 with h1 | h1
        · exact .inr h1
        · exact (hc1 j o f y hj hf hy h1).imp id (hO2 _ _)
    · have := hone _ _ _ _ h1 hj h2
      subst this
      exact .inr (hO2 _ _ (h4 f hf))
  · have key : (s.nc * part ≤ i ∨ (x.at_ ≤ i ∧ i < x.to)) → HitM os ms' y ∨ nc' * part ≤ i ∨ ∃ (j : Nat) (x2 : WK), (s.X.set w x')[j]? = some x2 ∧ x2.at_ ≤ i ∧ i < x2.to := fun h1 => by
      rcases hr i y hi h1 with h2 | h2 | h2
      · exact .inl h2
      · exact .inr (.inl h2)
      · exact .inr (.inr ⟨w, x', get_set hx, h2⟩)
    rcases h.rc i y hi with h1 | h1 | ⟨j, x2, hj, h1⟩
    · exact .inl (h1.up hup)
    · exact key (.inl h1)
    · by_cases e : j = w
      · subst e; rw [hx] at hj; injection hj with hj; subst hj
        exact key (.inr h1)
      · exact .inr (.inr ⟨j, x2, by show (s.X.set w x')[j]? = _; rw [List.getElem?_set_ne (fun h => e h.symm)]; exact hj, h1⟩)
  · rcases hc2 i hi with h1 | ⟨j, o, h1, h2, h3, _⟩
    · exact h.rd i h1
    · exact ⟨j, o, h1, h2, h3⟩
  · rcases hsp hne with h1 | ⟨j, y, h1, h2, h3⟩
    · exact ⟨w, x', get_set hx, h1⟩
    · exact ⟨j, y, by show (s.X.set w x')[j]? = _; rw [List.getElem?_set_ne (fun h => h1 h.symm)]; exact h2, h3⟩
  · rcases set_get hj with ⟨rfl, rfl⟩ | ⟨hne, hj⟩
    · exact hpi z hz h4 hw0
    · rcases hpi2 with e | e
      · show z.w ∈ sP'
        rw [e]; exact h.pi _ _ z hj hz h4 hw0
      · have hg := scs_get hj
        have hz2 : atS y = z := by unfold atS; rw [hz]; rfl
        rw [hz2] at hg
        cases hzo : z.on with
        | true =>
          have := (h.sh.sl _ _ hg hzo).2.2.1 (fun e2 => hne (by rw [e] at e2; injection e2 with e2; exact e2.symm))
          omega
        | false =>
          exfalso
          have hlo := (h.wk _ _ hj).lo
          unfold WLoc at hlo
          rw [hz] at hlo
          split at hlo <;> first | (obtain ⟨h1, _⟩ := hlo; cases h1; done) | (obtain ⟨y, h1, h2, _⟩ := hlo; cases h1; rw [hzo] at h2; cases h2; done) | (obtain ⟨_, h1 | ⟨y, h1, h2, _⟩⟩ := hlo <;> cases h1; rw [hzo] at h2; cases h2; done) | (obtain ⟨_, h1 | ⟨y, h1, h2, _⟩⟩ := hlo <;> cases h1; done) | (obtain ⟨_, h1 | ⟨e, y, h1, h2, _⟩⟩ := hlo <;> cases h1; done) | exact hlo
theorem MInv.calm (h : MInv n W rm rS part os rts s) (hone : ∀ (j j' : Nat) (o o' : RO), os[j]? = some o → os[j']? = some o' → o.i = o'.i → o = o') (hx : s.X[w]? = some x) (hq : s.D[d]? = some q) (x' : WK) (q' : DQ)
    (hk : x'.k = x.k) (hqk : q'.k = q.k) (hqP : q'.P = q.P) (hd1 : ∃ pu, Dq.DHI W rm (dcs W d (s.X.set w x')) pu bigN m' q'.ws q'.P q'.T) (hd2 : ∀ e, e ≠ d → ∀ k, clD e k x'.cl = clD e k x.cl)
    (hS : Sp.SHI W rS (scs (s.X.set w x')) sw' s.sP sL') (hxx : x'.x = x.x) (hxa : x'.at_ = x.at_) (hxt : x'.to = x.to) (hxh : hand x' = hand x) (hes : es x = 1 ↔ es x' = 1) (hes4 : es x = 4 → es x' = 4) (hes2 : 4 ≤ es x' → 4 ≤ es x) (hlo : WLoc W x')
    (he1 : 6 ≤ x'.st → ∀ q0, s.D[w]? = some q0 → q0.P = []) (hsp : s.sP ≠ [] → x'.st ≤ 7 ∨ ∃ (j : Nat) (y : WK), j ≠ w ∧ s.X[j]? = some y ∧ y.st ≤ 7) (hpi : ∀ y, x'.cl = .sp y → y.s = 4 → 0 < y.w → y.w ∈ s.sP) (hm : s.m ≤ m') (htv : tv' ≤ m') :
    MInv n W rm rS part os rts (s.go w d x' q' s.ms s.nc sw' s.sP sL' tv' m') := by
  have hwx := h.wk _ _ hx
  refine h.go hx hq x' q' hk hqk hd1 hd2 hS h.mi (fun _ e => e) (Nat.le_refl _) ⟨by rw [hxa, hxt]; exact hwx.a1, by rw [hxt]; exact hwx.a2, by rw [hxa, hxt, hwx.a3]; exact hes, by rw [hxx]; exact hwx.x1, fun e => ?_, fun e => hwx.nr (hes2 e), hlo⟩ (fun h6 q0 hq0 => ?_) (fun _ e => by rw [hqP]; exact e) (fun u hu => .inl ?_) (fun j o f y hj hf hy hc => .inr ?_) (fun i hi => .inl hi) hone (fun i y hi hr => .inr ?_) hsp hpi (.inl rfl) hm htv (Nat.le_trans h.nm hm)
  · rw [hxx] at e ⊢
    exact ⟨hes4 (hwx.x2 e).1, (hwx.x2 e).2⟩
  · rcases set_get hq0 with ⟨rfl, rfl⟩ | ⟨hne, hq0⟩
    · rw [hqP]; exact he1 h6 q hq
    · exact he1 h6 q0 hq0
  · rw [hqP, hxh] at hu; exact hu
  · rw [hqP, hxh]
    obtain ⟨t, ht, h1⟩ := hc
    exact ⟨t, by unfold OwnT at ht ⊢; rw [hxx]; exact ht, h1⟩
  · rw [hxa, hxt]; exact hr
end go
open Go.Sep
def hot (D : List DQ) (x : WK) : Prop := ∃ q, D[x.victim]? = some q ∧ ((q.T % 4096 : Nat) : Int) < x.low
def QK (D : List DQ) (sP : List Int) (L L' : Option Nat) (w : Nat) (x x' : WK) : Prop :=
  (x.st = 3 ∧ x'.st = 3 ∧ clN x.cl = 0 ∧ clN x'.cl = 0 ∧ L ≠ none ∧ L' = L) ∨
  (x.st = 6 ∧ L' = L ∧ ((x'.st = 6 ∧ clN x.cl < clN x'.cl ∧ clN x'.cl ≤ 3) ∨ (x'.st = 7 ∧ x'.cl = .none))) ∨
  (x.st = 7 ∧ x'.st = 7 ∧ clN x.cl = 0 ∧ clN x'.cl = 0 ∧ L ≠ none ∧ L' = L) ∨
  (x.st = 7 ∧ x'.st = 7 ∧ clN x.cl = 0 ∧ clN x'.cl = 1 ∧ L = none ∧ L' = some w) ∨
  (x.st = 7 ∧ x'.st = 7 ∧ L = some w ∧ L' = some w ∧ clN x'.cl = clN x.cl + 1 ∧ clN x'.cl ≤ 3) ∨
  (x.st = 7 ∧ x'.st = 8 ∧ clN x.cl = 2 ∧ L = some w ∧ L' = none ∧ sP = []) ∨
  (x.st = 8 ∧ x'.st = 9 ∧ L' = L) ∨
  (9 ≤ x.st ∧ 9 ≤ x'.st ∧ L' = L ∧ (x'.st = 12 → (x.st = 11 ∧ hot D x) ∨ sP ≠ []) ∧ (x'.st = 11 → ∀ q, D[x'.victim]? = some q → x'.low ≤ ((q.T % 4096 + q.P.length : Nat) : Int))) ∨
  (x.st = 12 ∧ x'.st = 6 ∧ x'.cl = .none ∧ L' = L)
def Tr (os : List RO) (R part : Nat) (s s' : MS) (w : Nat) : Prop :=
  Phi os R part s' < Phi os R part s ∨ (Phi os R part s' = Phi os R part s ∧ s'.sP = s.sP ∧ (∀ (d : Nat) (q' : DQ), s'.D[d]? = some q' → ∃ q, s.D[d]? = some q ∧ q'.P = q.P ∧ q'.T = q.T) ∧
    ∃ x x', s.X[w]? = some x ∧ s'.X = s.X.set w x' ∧ QK s.D s.sP s.sL s'.sL w x x')
def Next (n W rm rS part : Nat) (os : List RO) (rts : List Int) (s s' : MS) (w : Nat) : Prop := MInv n W rm rS part os rts s' ∧ Tr os rts.length part s s' w
abbrev OneO (os : List RO) : Prop := ∀ (j j' : Nat) (o o' : RO), os[j]? = some o → os[j']? = some o' → o.i = o'.i → o = o'
section calm
variable {n W rm rS part : Nat} {os : List RO} {rts : List Int} {s : MS} {w d : Nat} {x x' : WK} {q q' : DQ} {sw' : List Int} {sL' : Option Nat} {tv' m' : Nat}
theorem Phi_calm {R : Nat} (hx : s.X[w]? = some x) (hq : s.D[d]? = some q) (hP : q'.P = q.P) (hxx : x'.x = x.x) (hxa : x'.at_ = x.at_) (hxt : x'.to = x.to) :
    Phi os R part (s.go w d x' q' s.ms s.nc sw' s.sP sL' tv' m') + base x = Phi os R part s + base x' := by
  have := Phi_go (os := os) (R := R) (part := part) (x' := x') (q' := q') (ms' := s.ms) (nc' := s.nc) (sw' := sw') (sP' := s.sP) (sL' := sL') (tv' := tv') (m' := m') hx hq
  rw [hP] at this
  have e : phi x' + base x = phi x + base x' := by unfold phi; rw [hxx, hxa, hxt]; omega
  omega
theorem D_same (hq : s.D[d]? = some q) (hP : q'.P = q.P) (hT : q'.T = q.T) : ∀ (e : Nat) (y' : DQ), (s.D.set d q')[e]? = some y' → ∃ y, s.D[e]? = some y ∧ y'.P = y.P ∧ y'.T = y.T := by
  intro e y' he
  rcases set_get he with ⟨rfl, rfl⟩ | ⟨_, he⟩
  · exact ⟨q, hq, hP, hT⟩
  · exact ⟨y', he, rfl, rfl⟩
theorem Tr.lt {s' : MS} {R : Nat} (h : Phi os R part s' < Phi os R part s) : Tr os R part s s' w := .inl h
theorem Tr.calm {R : Nat} (hx : s.X[w]? = some x) (hq : s.D[d]? = some q) (hP : q'.P = q.P) (hT : q'.T = q.T) (hxx : x'.x = x.x) (hxa : x'.at_ = x.at_) (hxt : x'.to = x.to) (hb : base x' = base x)
    (hk : QK s.D s.sP s.sL sL' w x x') : Tr os R part s (s.go w d x' q' s.ms s.nc sw' s.sP sL' tv' m') w := by
  have := Phi_calm (os := os) (part := part) (R := R) (sw' := sw') (sL' := sL') (tv' := tv') (m' := m') hx hq hP hxx hxa hxt
  exact .inr ⟨by omega, rfl, D_same hq hP hT, x, x', hx, rfl, hk⟩
theorem Tr.less {R : Nat} (hx : s.X[w]? = some x) (hq : s.D[d]? = some q) (hP : q'.P = q.P) (hxx : x'.x = x.x) (hxa : x'.at_ = x.at_) (hxt : x'.to = x.to) (hb : base x' < base x) :
    Tr os R part s (s.go w d x' q' s.ms s.nc sw' s.sP sL' tv' m') w := by
  have := Phi_calm (os := os) (part := part) (R := R) (sw' := sw') (sL' := sL') (tv' := tv') (m' := m') hx hq hP hxx hxa hxt
  exact .inl (by omega)
theorem MInv.dw (h : MInv n W rm rS part os rts s) (hx : s.X[w]? = some x) : ∃ q, s.D[w]? = some q := by
  have h1 := h.xl; have h2 := h.dl
  have := (List.getElem?_eq_some_iff.1 hx).1
  exact ⟨s.D[w]'(by omega), List.getElem?_eq_getElem _⟩
theorem MInv.calm0 (h : MInv n W rm rS part os rts s) (hone : OneO os) (hx : s.X[w]? = some x) (hq : s.D[w]? = some q) (x' : WK) (hk : x'.k = x.k) (hcl : x'.cl = x.cl)
    (hxx : x'.x = x.x) (hxa : x'.at_ = x.at_) (hxt : x'.to = x.to) (hxp : x'.push = x.push) (hes : es x = 1 ↔ es x' = 1) (hes4 : es x = 4 → es x' = 4) (hes2 : 4 ≤ es x' → 4 ≤ es x) (hlo : WLoc W x')
    (he1 : 6 ≤ x'.st → q.P = []) (hsp : s.sP ≠ [] → x'.st ≤ 7 ∨ ∃ (j : Nat) (y : WK), j ≠ w ∧ s.X[j]? = some y ∧ y.st ≤ 7) (hm : s.m ≤ m') (htv : tv' ≤ m') :
    MInv n W rm rS part os rts (s.go w w x' q s.ms s.nc s.sw s.sP s.sL tv' m') := by
  have hwW : w < W := by have := (List.getElem?_eq_some_iff.1 hx).1; have := h.xl; omega
  refine h.calm hone hx hq x' q hk rfl rfl ?_ (fun e _ k => by rw [hcl]) ?_ hxx hxa hxt (by unfold hand; rw [hxp, hcl]) hes hes4 hes2 hlo (fun h6 q0 hq0 => ?_) hsp (fun y e => h.pi _ _ y hx (by rw [← hcl]; exact e)) hm htv
  · obtain ⟨pu, hp⟩ := h.dh _ _ hq
    refine ⟨pu, ?_⟩
    rw [dcs_same hwW hwW h.xl hx (by rw [hcl])]
    exact DHI_m hp hm
  · rw [scs_same hx (by unfold atS; rw [hk, hcl])]
    exact h.sh
  · rw [hq] at hq0; injection hq0 with hq0; rw [← hq0]; exact he1 h6
theorem MInv.others (h : MInv n W rm rS part os rts s) (hx : s.X[w]? = some x) (h8 : 8 ≤ x.st) : s.sP ≠ [] → ∃ (j : Nat) (y : WK), j ≠ w ∧ s.X[j]? = some y ∧ y.st ≤ 7 := by
  intro hne
  obtain ⟨j, y, hj, hy⟩ := h.sp hne
  refine ⟨j, y, fun e => ?_, hj, hy⟩
  subst e; rw [hx] at hj; injection hj with hj; subst hj; omega
theorem es_of {x : WK} (h2 : x.st ≠ 2) (h3 : x.st ≠ 3) : es x = x.st := by unfold es; rw [if_neg (by omega)]
theorem step_calm (h : MInv n W rm rS part os rts s) (hone : OneO os) (hx : s.X[w]? = some x) (hq : s.D[w]? = some q) (h8 : 8 ≤ x.st) (x' : WK) (hk : x'.k = x.k) (hcl : x'.cl = x.cl)
    (hxx : x'.x = x.x) (hxa : x'.at_ = x.at_) (hxt : x'.to = x.to) (hxp : x'.push = x.push) (h6' : 6 ≤ x'.st) (hlo : WLoc W x') (hm : s.m ≤ m') (htv : tv' ≤ m') (h7 : x'.st ≠ 7) (hK : QK s.D s.sP s.sL s.sL w x x') :
    Next n W rm rS part os rts s (s.go w w x' q s.ms s.nc s.sw s.sP s.sL tv' m') w := by
  have e1 : es x = x.st := es_of (by omega) (by omega)
  have e2 : es x' = x'.st := es_of (by omega) (by omega)
  refine ⟨h.calm0 hone hx hq x' hk hcl hxx hxa hxt hxp (by omega) (by omega) (by omega) hlo (fun _ => h.em _ _ _ hx hq (by omega)) (fun hne => .inr (h.others hx h8 hne)) hm htv, Tr.calm hx hq rfl rfl hxx hxa hxt ?_ hK⟩
  have b1 : ∀ y : WK, 8 ≤ y.st → base y = 0 := by
    intro y hy
    unfold base
    split <;> first | omega | rfl
  rw [b1 x h8]
  by_cases e : 8 ≤ x'.st
  · exact b1 x' e
  · have : x'.st = 6 := by omega
    unfold base; rw [this]; rfl
theorem step_scan_end (h : MInv n W rm rS part os rts s) (hone : OneO os) (hx : s.X[w]? = some x) (hq : s.D[w]? = some q) (h4 : x.st = 4) (he : x.x.f = x.x.t) (sc : Bool) (hm : s.m ≤ m') :
    Next n W rm rS part os rts s (s.go w w { x with st := 5, scans := sc } q s.ms s.nc s.sw s.sP s.sL s.tv m') w := by
  have hw := h.wk _ _ hx
  have e1 : es x = 4 := by rw [es_of (by omega) (by omega)]; exact h4
  have hlo := hw.lo
  unfold WLoc at hlo
  rw [h4] at hlo
  have hwW : w < W := by have := (List.getElem?_eq_some_iff.1 hx).1; have := h.xl; omega
  have e5 : es { x with st := 5, scans := sc } = 5 := rfl
  refine ⟨h.go hx hq { x with st := 5, scans := sc } q rfl rfl ?_ (fun _ _ _ => rfl) ?_ h.mi (fun _ e => e) (Nat.le_refl _) ⟨hw.a1, hw.a2, ?_, hw.x1, fun e => ?_, fun _ => hw.nr (by omega), ?_⟩ (fun h6 => ?_) (fun _ e => e) (fun u hu => .inl hu) (fun j o f y hj hf hy hc => .inr ?_) (fun i hi => .inl hi) hone (fun i y hi hr => .inr hr) (fun _ => .inl (by show 5 ≤ 7; decide)) (fun y e => h.pi _ _ y hx e) (.inl rfl) hm (Nat.le_trans h.tv hm) (Nat.le_trans h.nm hm), Tr.less hx hq rfl rfl rfl rfl (by unfold base; rw [h4]; show 8 - clN x.cl < 9; omega)⟩
  · obtain ⟨pu, hp⟩ := h.dh _ _ hq
    refine ⟨pu, ?_⟩
    rw [dcs_same (x' := { x with st := 5, scans := sc }) hwW hwW h.xl hx rfl]
    exact DHI_m hp hm
  · rw [scs_same (x' := { x with st := 5, scans := sc }) hx rfl]
    exact h.sh
  · rw [hw.a3, e5, e1]; decide
  · exact absurd (show x.x.f < x.x.t from e) (by omega)
  · exact ⟨hlo.2, .inl hlo.1⟩
  · exact absurd (show 6 ≤ 5 from h6) (by decide)
  · obtain ⟨t, ht, h1⟩ := hc
    exact ⟨t, ht, h1⟩
end calm
open Go.Sep
theorem dq_bounds {nc rm : Nat} {cs : List Dq.DK} {pu next : Int} {m : Nat} {ws P : List Int} {T k : Nat} {y : Dq.DK} (h : Dq.DHI nc rm cs pu next m ws P T) (hk : cs[k]? = some y) (ho : y.on = true) :
    (k = 0 → y.push = true → y.s ≤ 2 ∧ pu = y.word) ∧ (k = 0 → y.push = false → y.s ≤ 6) ∧ (0 < k → y.push = false ∧ y.s ≤ 3) := by
  refine ⟨fun e hp => ?_, fun e hp => ?_, fun e => ?_⟩
  · subst e
    obtain ⟨a1, a2, a3, a4, _⟩ := (h.own _ hk).2.1 ho hp
    exact ⟨a4, a1⟩
  · subst e
    exact ((h.own _ hk).2.2 ho hp).2.1
  · obtain ⟨a1, a2, _⟩ := h.th _ _ e hk ho
    exact ⟨a1, a2⟩
theorem clD_ne {d e k : Nat} {y : Dq.DK} (h : e ≠ d) : clD e k (.dq d y) = offD k := by unfold clD; exact if_neg (fun h2 => h h2.symm)
theorem clD_eq {d k : Nat} {y : Dq.DK} : clD d k (.dq d y) = y := by unfold clD; exact if_pos rfl
def AtQ (w d : Nat) (x : WK) (y : Dq.DK) : Prop :=
  (x.st = 2 ∧ d = w ∧ y.push = true ∧ x.cl = .dq d y ∧ y.word = x.push ∧ 0 < x.push ∧ (x.tn = 0 ∨ x.tn = 1 ∨ x.tn = 4)) ∨ (x.st = 5 ∧ d = w ∧ y.push = false ∧ x.push = 0 ∧ (x.cl = .dq d y ∨ (x.cl = .none ∧ y.s = 0))) ∨
  (x.st = 6 ∧ d ≠ w ∧ y.push = false ∧ x.push = 0 ∧ (x.cl = .dq d y ∨ (x.cl = .none ∧ y.s = 0)))
theorem AtQ.cl {w d : Nat} {x : WK} {y : Dq.DK} (h : AtQ w d x y) : x.cl = .dq d y ∨ (x.cl = .none ∧ y.s = 0) := by
  rcases h with ⟨_, _, _, h, _⟩ | ⟨_, _, _, _, h⟩ | ⟨_, _, _, _, h⟩
  · exact .inl h
  · exact h
  · exact h
theorem AtQ.n {w d : Nat} {x : WK} {y : Dq.DK} (h : AtQ w d x y) : clN x.cl = y.s := by
  rcases h.cl with h | ⟨h, h2⟩
  · rw [h]; rfl
  · rw [h, h2]; rfl
theorem AtQ.ne {w d : Nat} {x : WK} {y : Dq.DK} (h : AtQ w d x y) {e : Nat} (he : e ≠ d) (k : Nat) : clD e k x.cl = offD k := by
  rcases h.cl with h | ⟨h, h2⟩
  · rw [h]; exact clD_ne he
  · rw [h]; rfl
theorem AtQ.tk {w d : Nat} {x : WK} {y : Dq.DK} (h : AtQ w d x y) : takenW x.cl = [] := by
  rcases h.cl with h | ⟨h, h2⟩ <;> (rw [h]; rfl)
theorem AtQ.sp {w d : Nat} {x : WK} {y : Dq.DK} (h : AtQ w d x y) : atS x = offS x.k := by
  unfold atS
  rcases h.cl with h | ⟨h, h2⟩ <;> (rw [h]; rfl)
section dq
variable {n W rm rS part : Nat} {os : List RO} {rts : List Int} {s : MS} {w d : Nat} {x : WK} {q : DQ} {tv' m' : Nat} {y y' : Dq.DK} {ws' P' : List Int} {T' : Nat}
theorem step_dq_more (h : MInv n W rm rS part os rts s) (hone : OneO os) (hx : s.X[w]? = some x) (hd : d < W) (hq : s.D[d]? = some q) (hA : AtQ w d x y) {pu : Int}
    (hD : Dq.DHI W rm ((dcs W d s.X).set (idx W w d) y) pu bigN s.m q.ws q.P q.T) (hy : y.on = true) (hon : y'.on = true) (hpu : y'.push = y.push) (hs : y.s < y'.s)
    (hD' : Dq.DHI W rm ((dcs W d s.X).set (idx W w d) y') pu bigN m' ws' q.P q.T) (hm : s.m ≤ m') (htv : tv' ≤ m') :
    Next n W rm rS part os rts s (s.go w d { x with cl := .dq d y' } { q with ws := ws' } s.ms s.nc s.sw s.sP s.sL tv' m') w := by
  have hwW : w < W := by have := (List.getElem?_eq_some_iff.1 hx).1; have := h.xl; omega
  have hwx := h.wk _ _ hx
  have hxk := h.xk _ _ hx
  have hkl : idx W w d < (dcs W d s.X).length := (List.getElem?_eq_some_iff.1 (dcs_get hwW hd hx)).1
  have b := dq_bounds hD (Dq.set_eq hkl) hy
  have b' := dq_bounds hD' (Dq.set_eq hkl) hon
  have hi := idx_zero hwW hd
  have hes : es { x with cl := .dq d y' } = es x := rfl
  have hst6 : x.st ≤ 6 := by rcases hA with ⟨h1, _⟩ | ⟨h1, _⟩ | ⟨h1, _⟩ <;> omega
  have hlo : WLoc W { x with cl := .dq d y' } := by
    unfold WLoc
    rcases hA with ⟨h1, rfl, h3, h4, h5, h6, h7⟩ | ⟨h1, rfl, h3, h4, h5⟩ | ⟨h1, h2, h3, h4, h5⟩
    · dsimp only
      rw [h1]
      refine ⟨y', by rw [hxk], hon, by rw [hpu, h3], ?_, h6, h7⟩
      have e1 := (b.1 (hi.2 rfl) h3).2
      have e2 := (b'.1 (hi.2 rfl) (by rw [hpu, h3])).2
      rw [← e2, e1, h5]
    · dsimp only
      rw [h1]
      exact ⟨h4, .inr ⟨y', by rw [hxk], hon, by rw [hpu, h3]⟩⟩
    · dsimp only
      rw [h1]
      exact ⟨h4, .inr ⟨d, y', rfl, hd, by rw [hxk]; exact h2, hon, by rw [hpu, h3]⟩⟩
  refine ⟨h.calm hone hx hq { x with cl := .dq d y' } { q with ws := ws' } rfl rfl rfl ⟨pu, ?_⟩ (fun e he k => by rw [hA.ne he]; exact clD_ne he) ?_ rfl rfl rfl ?_ Iff.rfl id id hlo (fun h6 q0 hq0 => h.em _ _ _ hx hq0 h6) (fun _ => .inl (by show x.st ≤ 7; omega)) (fun _ e => by cases e) hm htv, ?_⟩
  · rw [dcs_set hwW hd h.xl]
    show Dq.DHI W rm ((dcs W d s.X).set (idx W w d) (clD d (idx W w d) (.dq d y'))) pu bigN m' ws' q.P q.T
    rw [clD_eq]
    exact hD'
  · rw [scs_same (x' := { x with cl := .dq d y' }) hx (by rw [hA.sp]; rfl)]
    exact h.sh
  · unfold hand
    rw [hA.tk]
    rfl
  · have hn := hA.n
    rcases hA with ⟨h1, rfl, h3, h4, h5, h6, h7⟩ | ⟨h1, rfl, h3, h4, h5⟩ | ⟨h1, h2, h3, h4, h5⟩
    · refine Tr.less hx hq rfl rfl rfl rfl ?_
      have e2 := (b'.1 (hi.2 rfl) (by rw [hpu, h3])).1
      unfold base
      dsimp only
      rw [h1]
      show 200 * lenW x.push + (20 - y'.s) + vt x.tn < 200 * lenW x.push + (20 - clN x.cl) + vt x.tn
      omega
    · refine Tr.less hx hq rfl rfl rfl rfl ?_
      have e2 := b'.2.1 (hi.2 rfl) (by rw [hpu, h3])
      unfold base
      dsimp only
      rw [h1]
      show 8 - y'.s < 8 - clN x.cl
      omega
    · refine Tr.calm hx hq rfl rfl rfl rfl rfl ?_ (.inr (.inl ⟨h1, rfl, .inl ⟨h1, ?_, ?_⟩⟩))
      · unfold base
        dsimp only
        rw [h1]
        rfl
      · show clN x.cl < y'.s
        omega
      · show y'.s ≤ 3
        have : idx W w d ≠ 0 := fun e => h2 (hi.1 e).symm
        exact (b'.2.2 (by omega)).2
theorem step_push_ok (h : MInv n W rm rS part os rts s) (hone : OneO os) (hx : s.X[w]? = some x) (hq : s.D[w]? = some q) (hA : AtQ w w x y) (hst : x.st = 2) {pu : Int}
    (hD : Dq.DHI W rm ((dcs W w s.X).set (idx W w w) y) pu bigN s.m q.ws q.P q.T) (hy : y.on = true)
    (hD' : Dq.DHI W rm ((dcs W w s.X).set (idx W w w) { y with on := false }) 0 bigN m' ws' (q.P ++ [y.word]) T') (hm : s.m ≤ m') (htv : tv' ≤ m') :
    Next n W rm rS part os rts s (s.go w w { x with st := x.tn, push := 0, cl := .none } { q with ws := ws', P := q.P ++ [y.word], T := T' } s.ms s.nc s.sw s.sP s.sL tv' m') w := by
  have hwW : w < W := by have := (List.getElem?_eq_some_iff.1 hx).1; have := h.xl; omega
  have hwx := h.wk _ _ hx
  have hxk := h.xk _ _ hx
  have hkl : idx W w w < (dcs W w s.X).length := (List.getElem?_eq_some_iff.1 (dcs_get hwW hwW hx)).1
  have b := dq_bounds hD (Dq.set_eq hkl) hy
  have hi := idx_zero hwW hwW
  have hne := fun e (he : e ≠ w) k => hA.ne he k
  have hsp := hA.sp
  have hn := hA.n
  rcases hA with ⟨h1, _, h3, h4, h5, h6, h7⟩ | ⟨h1, _⟩ | ⟨h1, _⟩
  rotate_left
  · omega
  · omega
  have hes : es x = x.tn := by unfold es; rw [if_pos (.inl h1)]
  have hes' : es { x with st := x.tn, push := 0, cl := .none } = x.tn := es_of (by dsimp only; omega) (by dsimp only; omega)
  have hhx : hand x = [x.push] := by
    unfold hand
    rw [if_neg (by omega), h4]
    rfl
  have hhx' : hand { x with st := x.tn, push := 0, cl := .none } = [] := rfl
  have hs2 := (b.1 (hi.2 rfl) h3).1
  have hmem : ∀ u, u ∈ (q.P ++ [y.word]) ++ s.sP ++ ([] : List Int) ↔ u ∈ q.P ++ s.sP ++ [x.push] := by
    intro u
    simp only [List.mem_append, List.mem_singleton, h5, List.not_mem_nil, or_false]
    constructor
    · rintro ((h | h) | h)
      · exact .inl (.inl h)
      · exact .inr h
      · exact .inl (.inr h)
    · rintro ((h | h) | h)
      · exact .inl (.inl h)
      · exact .inr h
      · exact .inl (.inr h)
  refine ⟨h.go hx hq { x with st := x.tn, push := 0, cl := .none } { q with ws := ws', P := q.P ++ [y.word], T := T' } rfl rfl ⟨0, ?_⟩ (fun e he k => by rw [hne e he]; rfl) ?_ h.mi (fun _ e => e) (Nat.le_refl _)
    ⟨hwx.a1, hwx.a2, by rw [hwx.a3, hes, hes'], hwx.x1, fun e => by rw [hes', ← hes]; exact hwx.x2 e, fun e => hwx.nr (by rw [hes, ← hes']; exact e), ?_⟩ (fun h6 => ?_) (fun e => absurd rfl e) (fun u hu => .inl ?_) (fun j o f y2 hj hf hy hc => .inr ?_) (fun i hi => .inl hi) hone (fun i y hi hr => .inr hr) (fun _ => .inl (by show x.tn ≤ 7; omega)) (fun _ e => by cases e) (.inl rfl) hm htv (Nat.le_trans h.nm hm), .inl ?_⟩
  · rw [dcs_set hwW hwW h.xl]
    exact DHI_off hD' hkl rfl
  · rw [scs_same (x' := { x with st := x.tn, push := 0, cl := .none }) hx (by rw [hsp]; rfl)]
    exact h.sh
  · unfold WLoc
    dsimp only
    rcases h7 with h7 | h7 | h7 <;> (rw [h7]; exact ⟨rfl, rfl⟩)
  · exact absurd (show 6 ≤ x.tn from h6) (by omega)
  · rw [hhx]; exact (hmem u).1 hu
  · rw [hhx] at hc
    obtain ⟨t, ht, h1⟩ := hc
    refine ⟨t, ht.imp id fun ⟨u, hu, e⟩ => ⟨u, (hmem u).2 hu, e⟩, h1⟩
  · have hg := Phi_go (os := os) (R := rts.length) (part := part) (x' := { x with st := x.tn, push := 0, cl := .none }) (q' := { q with ws := ws', P := q.P ++ [y.word], T := T' }) (ms' := s.ms) (nc' := s.nc) (sw' := s.sw) (sP' := s.sP) (sL' := s.sL) (tv' := tv') (m' := m') hx hq
    dsimp only at hg
    have e3 : phiP 12 (q.P ++ [y.word]) = phiP 12 q.P + (200 * lenW x.push + 12) := by rw [phiP_app, phiP_one, h5]
    have e1 : phi x = 3 * (x.to - x.at_) + (x.x.t - x.x.f) + (200 * lenW x.push + (20 - clN x.cl) + vt x.tn) := by unfold phi base; rw [h1]; rfl
    have e2 : phi { x with st := x.tn, push := 0, cl := .none } = 3 * (x.to - x.at_) + (x.x.t - x.x.f) + vt x.tn := by
      unfold phi base vt
      dsimp only
      rcases h7 with h7 | h7 | h7 <;> (rw [h7]; rfl)
    rw [e1, e2, e3] at hg
    omega
theorem step_push_full (h : MInv n W rm rS part os rts s) (hone : OneO os) (hx : s.X[w]? = some x) (hq : s.D[w]? = some q) (hA : AtQ w w x y) (hst : x.st = 2) {pu : Int}
    (hD : Dq.DHI W rm ((dcs W w s.X).set (idx W w w) y) pu bigN s.m q.ws q.P q.T) (hy : y.on = true)
    (hD' : Dq.DHI W rm ((dcs W w s.X).set (idx W w w) { y with on := false }) 0 bigN m' ws' q.P T') (sc : Nat) (hm : s.m ≤ m') (htv : tv' ≤ m') :
    Next n W rm rS part os rts s (s.go w w { x with st := 3, cl := .sp ⟨w, true, sc, x.push, 0, 0, x.push⟩ } { q with ws := ws', T := T' } s.ms s.nc s.sw s.sP s.sL tv' m') w := by
  have hwW : w < W := by have := (List.getElem?_eq_some_iff.1 hx).1; have := h.xl; omega
  have hwx := h.wk _ _ hx
  have hxk := h.xk _ _ hx
  have hkl : idx W w w < (dcs W w s.X).length := (List.getElem?_eq_some_iff.1 (dcs_get hwW hwW hx)).1
  have b := dq_bounds hD (Dq.set_eq hkl) hy
  have hi := idx_zero hwW hwW
  have hne := fun e (he : e ≠ w) k => hA.ne he k
  have hsp := hA.sp
  have htk := hA.tk
  have hn := hA.n
  rcases hA with ⟨h1, _, h3, h4, h5, h6, h7⟩ | ⟨h1, _⟩ | ⟨h1, _⟩
  rotate_left
  · omega
  · omega
  have hes : es x = x.tn := by unfold es; rw [if_pos (.inl h1)]
  have hs2 := (b.1 (hi.2 rfl) h3).1
  have hes' : es { x with st := 3, cl := .sp ⟨w, true, sc, x.push, 0, 0, x.push⟩ } = x.tn := by unfold es; rw [if_pos (.inr rfl)]
  refine ⟨h.calm hone hx hq { x with st := 3, cl := .sp ⟨w, true, sc, x.push, 0, 0, x.push⟩ } { q with ws := ws', T := T' } rfl rfl rfl ⟨0, ?_⟩ (fun e he k => by rw [hne e he]; rfl) ?_ rfl rfl rfl ?_ (by rw [hes, hes']) (fun e => by rw [hes', ← hes]; exact e) (fun e => by rw [hes, ← hes']; exact e) ?_ (fun h6 => absurd (show 6 ≤ 3 from h6) (by decide)) (fun _ => .inl (by show 3 ≤ 7; decide)) (fun y e h4 => by injection e with e; rw [← e] at h4; cases h4) hm htv, Tr.less hx hq rfl rfl rfl rfl ?_⟩
  · rw [dcs_set hwW hwW h.xl]
    exact DHI_off hD' hkl rfl
  · rw [scs_set]
    exact h.sh.on (scs_get hx) (by rw [hsp]; rfl) sc x.push (by omega)
  · unfold hand
    rw [htk]
    show (if x.push = 0 then [] else [x.push]) ++ (if x.push = 0 ∧ (0 : Nat) = 4 then [x.push] else []) = (if x.push = 0 then [] else [x.push]) ++ []
    rw [if_neg (c := x.push = 0 ∧ (0 : Nat) = 4) (by omega)]
  · unfold WLoc
    exact ⟨_, rfl, rfl, rfl, h6, h7⟩
  · rw [base2 h1, base3 (x := { x with st := 3, cl := .sp ⟨w, true, sc, x.push, 0, 0, x.push⟩ }) rfl (Nat.zero_le _)]
    show 200 * lenW x.push + (15 - 0) + vt x.tn < 200 * lenW x.push + (20 - clN x.cl) + vt x.tn
    omega
theorem step_dq_none (h : MInv n W rm rS part os rts s) (hone : OneO os) (hx : s.X[w]? = some x) (hd : d < W) (hq : s.D[d]? = some q) (hA : AtQ w d x y) (hst : x.st ≠ 2) {pu pu' : Int}
    (hD : Dq.DHI W rm ((dcs W d s.X).set (idx W w d) y) pu bigN s.m q.ws q.P q.T) (hy : y.on = true)
    (hD' : Dq.DHI W rm ((dcs W d s.X).set (idx W w d) { y with on := false }) pu' bigN m' ws' q.P T') (hT : 0 < idx W w d → T' = q.T) (hP : idx W w d = 0 → q.P = []) (hm : s.m ≤ m') (htv : tv' ≤ m') :
    Next n W rm rS part os rts s (s.go w d { x with st := x.st + 1, cl := .none } { q with ws := ws', T := T' } s.ms s.nc s.sw s.sP s.sL tv' m') w := by
  have hwW : w < W := by have := (List.getElem?_eq_some_iff.1 hx).1; have := h.xl; omega
  have hwx := h.wk _ _ hx
  have hxk := h.xk _ _ hx
  have hkl : idx W w d < (dcs W d s.X).length := (List.getElem?_eq_some_iff.1 (dcs_get hwW hd hx)).1
  have b := dq_bounds hD (Dq.set_eq hkl) hy
  have hi := idx_zero hwW hd
  have hne := fun e (he : e ≠ d) k => hA.ne he k
  have hsp := hA.sp
  have htk := hA.tk
  have hn := hA.n
  have hs56 : (x.st = 5 ∧ d = w ∧ y.push = false ∧ x.push = 0) ∨ (x.st = 6 ∧ d ≠ w ∧ x.push = 0) := by
    rcases hA with ⟨h1, _⟩ | ⟨h1, h2, h3, h4, _⟩ | ⟨h1, h2, h3, h4, _⟩
    · omega
    · exact .inl ⟨h1, h2, h3, h4⟩
    · exact .inr ⟨h1, h2, h4⟩
  have hes : es x = x.st := es_of (by omega) (by omega)
  have hes' : es { x with st := x.st + 1, cl := .none } = x.st + 1 := es_of (by dsimp only; omega) (by dsimp only; omega)
  refine ⟨h.calm hone hx hq { x with st := x.st + 1, cl := .none } { q with ws := ws', T := T' } rfl rfl rfl ⟨pu', ?_⟩ (fun e he k => by rw [hne e he]; rfl) ?_ rfl rfl rfl ?_ (by omega) (by omega) (by omega) ?_ (fun _ q0 hq0 => ?_) (fun _ => .inl (by show x.st + 1 ≤ 7; omega)) (fun _ e => by cases e) hm htv, ?_⟩
  · rw [dcs_set hwW hd h.xl]
    exact DHI_off hD' hkl rfl
  · rw [scs_same (x' := { x with st := x.st + 1, cl := .none }) hx (by rw [hsp]; rfl)]
    exact h.sh
  · unfold hand
    rw [htk]
    rfl
  · unfold WLoc
    dsimp only
    rcases hs56 with ⟨h1, _, _, h4⟩ | ⟨h1, _, h4⟩ <;> (rw [h1]; exact ⟨h4, .inl rfl⟩)
  · rcases hs56 with ⟨h1, h2, _⟩ | ⟨h1, _⟩
    · subst h2
      rw [hq] at hq0; injection hq0 with hq0
      rw [← hq0]; exact hP (hi.2 rfl)
    · exact h.em _ _ _ hx hq0 (by omega)
  · rcases hs56 with ⟨h1, h2, h3, _⟩ | ⟨h1, h2, _⟩
    · refine Tr.less hx hq rfl rfl rfl rfl ?_
      have := b.2.1 (hi.2 h2.symm) h3
      unfold base
      dsimp only
      rw [h1]
      show 0 < 8 - clN x.cl
      omega
    · refine Tr.calm hx hq rfl (hT (Nat.pos_of_ne_zero fun e => h2 (hi.1 e).symm)) rfl rfl rfl ?_ (.inr (.inl ⟨h1, rfl, .inr ⟨by show x.st + 1 = 7; omega, rfl⟩⟩))
      unfold base
      dsimp only
      rw [h1]
      rfl
end dq
open Go.Sep
theorem WordOk.tk {os : List RO} {ms : List Nat} {u : Int} (h : WordOk os ms u) : u = ((pkT (tkOf u) : Nat) : Int) ∧ (tkOf u).f < (tkOf u).t ∧ TaskIn os ms (tkOf u) ∧ lenW u = (tkOf u).t - (tkOf u).f := by
  obtain ⟨t, h1, h2, h3⟩ := h
  have e : tkOf u = t := by rw [h1]; exact tkOf_pk h3.ok
  rw [e]
  exact ⟨h1, h2, h3, by rw [h1, lenW_pk h3.ok]⟩
abbrev withT (x : WK) (u : Int) : WK := { x with st := 4, x := tkOf u, scans := true, cl := .none }
abbrev restT (x : WK) (K : Nat) : TK := ⟨x.x.a, x.x.f + K, x.x.t⟩
abbrev pushK (cc : Nat) (u : Int) : Dq.DK := ⟨0, true, true, cc, 0, 0, 0, u⟩
abbrev splitT (x : WK) (K cc : Nat) : WK := { x with st := 2, x := ⟨x.x.a, x.x.f, x.x.f + K⟩, push := ((pkT (restT x K) : Nat) : Int), tn := 4, cl := .dq x.k (pushK cc ((pkT (restT x K) : Nat) : Int)) }
section got
variable {n W rm rS part : Nat} {os : List RO} {rts : List Int} {s : MS} {w d : Nat} {x : WK} {q q' : DQ} {sw' sP' : List Int} {sL' : Option Nat} {tv' m' : Nat}
theorem own_off (h : MInv n W rm rS part os rts s) (hx : s.X[w]? = some x) (hcl : x.cl = .none) : (dcs W w s.X)[0]? = some (offD 0) := by
  have hwW : w < W := by have := (List.getElem?_eq_some_iff.1 hx).1; have := h.xl; omega
  have e := dcs_get hwW hwW hx
  rw [(idx_zero hwW hwW).2 rfl, hcl] at e
  exact e
theorem push_dhi (h : MInv n W rm rS part os rts s) (hx : s.X[w]? = some x) (hq : s.D[w]? = some q) (hcl : x.cl = .none) (x' : WK) (cc : Nat) {u : Int} (hcl' : x'.cl = .dq w (pushK cc u)) (h1 : 0 < u) (h2 : u < bigN) (hm : s.m ≤ m') :
    ∃ pu, Dq.DHI W rm (dcs W w (s.X.set w x')) pu bigN m' q.ws q.P q.T := by
  have hwW : w < W := by have := (List.getElem?_eq_some_iff.1 hx).1; have := h.xl; omega
  obtain ⟨pu, hp⟩ := h.dh _ _ hq
  refine ⟨u, ?_⟩
  rw [dcs_set hwW hwW h.xl, (idx_zero hwW hwW).2 rfl, hcl', clD_eq]
  exact DHI_push (DHI_m hp hm) (own_off h hx hcl) cc h1 h2
theorem hand_push {x : WK} {w cc : Nat} {u : Int} (hcl : x.cl = .dq w (pushK cc u)) (hp : x.push = u) (h1 : 0 < u) : hand x = [u] := by
  unfold hand
  rw [hp, hcl, if_neg (by omega)]
  rfl
theorem hand_none {x : WK} (hcl : x.cl = .none) (hp : x.push = 0) : hand x = [] := by
  unfold hand
  rw [hp, hcl]
  rfl
theorem split_core (h : MInv n W rm rS part os rts s) (hone : OneO os) (hx : s.X[w]? = some x) (hq : s.D[w]? = some q) (h4 : x.st = 4) (K cc : Nat) (hK : 1 ≤ K) (hlt : x.x.f + K < x.x.t) (hm : s.m ≤ m') (htv : tv' ≤ m') :
    MInv n W rm rS part os rts (s.go w w (splitT x K cc) q s.ms s.nc s.sw s.sP s.sL tv' m') := by
  have hwx := h.wk _ _ hx
  have hxk := h.xk _ _ hx
  have es4 : es x = 4 := by rw [es_of (by omega) (by omega)]; exact h4
  have hlo := hwx.lo
  unfold WLoc at hlo
  rw [h4] at hlo
  obtain ⟨hcl, hp⟩ := hlo
  have hti := (hwx.x2 (by omega)).2
  have hok := hwx.x1
  have hrok : (restT x K).Ok := ⟨hok.a1, by show x.x.f + K ≤ x.x.t; omega, hok.t1⟩
  have hpb := pkT_bd hrok
  have hes' : es (splitT x K cc) = 4 := rfl
  have hh : hand x = [] := hand_none hcl hp
  have hh' : hand (splitT x K cc) = [((pkT (restT x K) : Nat) : Int)] := hand_push (w := x.k) (cc := cc) rfl rfl (by omega)
  refine h.go hx hq (splitT x K cc) q rfl rfl (push_dhi h hx hq hcl (splitT x K cc) cc (by show CL.dq x.k _ = _; rw [hxk]) (by omega) (by show _ < (2000000000000 : Int); omega) hm) (fun e he k => ?_) ?_ h.mi (fun _ e => e) (Nat.le_refl _)
    ⟨hwx.a1, hwx.a2, by rw [hwx.a3, es4, hes'], ⟨hok.a1, Nat.le_add_right _ _, by show x.x.f + K ≤ 4095; have := hok.t1; omega⟩, fun e => ⟨hes', ?_⟩, fun e => hwx.nr (by omega), ?_⟩ (fun h6 => absurd (show 6 ≤ 2 from h6) (by decide)) (fun e => absurd rfl e) (fun u hu => ?_) (fun j o f y hj hf hy hc => .inr ?_) (fun i hi => .inl hi) hone (fun i y hi hr => .inr hr) (fun _ => .inl (by show 2 ≤ 7; decide)) (fun _ e => by cases e) (.inl rfl) hm htv (Nat.le_trans h.nm hm)
  · rw [hcl]
    show clD e k (CL.dq x.k _) = _
    rw [hxk]
    exact clD_ne he
  · rw [scs_same (x' := splitT x K cc) hx (by unfold atS; rw [hcl]; rfl)]
    exact h.sh
  · obtain ⟨j, o, h1, h2, h3, h5⟩ := hti.ob
    exact ⟨⟨hok.a1, Nat.le_add_right _ _, by show x.x.f + K ≤ 4095; have := hok.t1; omega⟩, j, o, h1, h2, by show ((x.x.f + K : Nat) : Int) ≤ o.p; omega, h5⟩
  · unfold WLoc
    exact ⟨_, rfl, rfl, rfl, rfl, by show (0 : Int) < ((pkT (restT x K) : Nat) : Int); omega, .inr (.inr rfl)⟩
  · rw [hh'] at hu
    rw [hh]
    rcases List.mem_append.1 hu with hu | hu
    · exact .inl (List.mem_append_left _ hu)
    · rw [List.mem_singleton.1 hu]
      exact .inr ⟨restT x K, rfl, by show x.x.f + K < x.x.t; omega, hrok, hti.ob⟩
  · rw [hh] at hc
    rw [hh']
    obtain ⟨t, ht, h1, h2, h3⟩ := hc
    rcases ht with rfl | ⟨u, hu, rfl⟩
    · by_cases hf2 : f < x.x.f + K
      · exact ⟨_, .inl rfl, h1, h2, hf2⟩
      · exact ⟨restT x K, .inr ⟨_, List.mem_append_right _ (List.mem_singleton.2 rfl), (tkOf_pk hrok).symm⟩, h1, by show x.x.f + K ≤ f; omega, h3⟩
    · rw [List.append_nil] at hu
      exact ⟨_, .inr ⟨u, List.mem_append_left _ hu, rfl⟩, h1, h2, h3⟩
theorem got_core (h : MInv n W rm rS part os rts s) (hone : OneO os) (hx : s.X[w]? = some x) (hd : d < W) (hq : s.D[d]? = some q) (h5 : 5 ≤ x.st ∧ x.st ≤ 7) (hp : x.push = 0) {u : Int} (hqk : q'.k = q.k)
    (hd1 : ∃ pu, Dq.DHI W rm (dcs W d (s.X.set w (withT x u))) pu bigN m' q'.ws q'.P q'.T) (hd2 : ∀ e, e ≠ d → ∀ k, clD e k x.cl = offD k) (hS : Sp.SHI W rS (scs (s.X.set w (withT x u))) sw' sP' sL')
    (hu : u ∈ q.P ++ s.sP ++ hand x) (hpi2 : sP' = s.sP ∨ s.sL = some w) (hl : ∀ v, v ∈ q.P ++ s.sP ++ hand x → v = u ∨ v ∈ q'.P ++ sP') (hl2 : ∀ v, v ∈ q'.P ++ sP' → v ∈ q.P ++ s.sP ++ hand x) (hq2 : q.P = [] → q'.P = []) (hm : s.m ≤ m') (htv : tv' ≤ m') :
    MInv n W rm rS part os rts (s.go w d (withT x u) q' s.ms s.nc sw' sP' sL' tv' m') := by
  have hwx := h.wk _ _ hx
  have hes : es x = x.st := es_of (by omega) (by omega)
  have hes' : es (withT x u) = 4 := rfl
  obtain ⟨w1, w2, w3, w4⟩ := (h.wv u ((InW_iff hx hq).2 (.inr hu))).tk
  have hh' : hand (withT x u) = [] := hand_none rfl hp
  refine h.go hx hq (withT x u) q' rfl hqk hd1 (fun e he k => (hd2 e he k).symm) hS h.mi (fun _ e => e) (Nat.le_refl _)
    ⟨hwx.a1, hwx.a2, by rw [hwx.a3, hes, hes']; omega, w3.ok, fun _ => ⟨hes', w3⟩, fun _ => hwx.nr (by omega), ⟨rfl, hp⟩⟩ (fun h6 => absurd (show 6 ≤ 4 from h6) (by decide)) (fun _ => hq2) (fun v hv => .inl ?_) (fun j o f y hj hf hy hc => .inr ?_) (fun i hi => .inl hi) hone (fun i y hi hr => .inr hr) (fun _ => .inl (by show 4 ≤ 7; decide)) (fun _ e => by cases e) hpi2 hm htv (Nat.le_trans h.nm hm)
  · rw [hh', List.append_nil] at hv
    exact hl2 v hv
  · rw [hh', List.append_nil]
    obtain ⟨t, ht, h1, h2, h3⟩ := hc
    rcases ht with rfl | ⟨v, hv, rfl⟩
    · have := (hwx.x2 (by omega)).1
      omega
    · rcases hl v hv with rfl | hv
      · exact ⟨_, .inl rfl, h1, h2, h3⟩
      · exact ⟨_, .inr ⟨v, hv, rfl⟩, h1, h2, h3⟩
theorem go_go {x1 x2 : WK} {ms1 ms2 : List Nat} {nc1 nc2 : Nat} {sw1 sP1 sw2 sP2 : List Int} {sL1 sL2 : Option Nat} {tv1 m1 tv2 m2 : Nat} {q1 : DQ} (h : (s.D.set d q')[w]? = some q1) :
    (s.go w d x1 q' ms1 nc1 sw1 sP1 sL1 tv1 m1).go w w x2 q1 ms2 nc2 sw2 sP2 sL2 tv2 m2 = s.go w d x2 q' ms2 nc2 sw2 sP2 sL2 tv2 m2 := by
  unfold MS.go
  dsimp only
  rw [List.set_set, set_id h]
theorem got (h : MInv n W rm rS part os rts s) (hone : OneO os) (hx : s.X[w]? = some x) (hd : d < W) (hq : s.D[d]? = some q) (h5 : 5 ≤ x.st ∧ x.st ≤ 7) (hp : x.push = 0) {u : Int} (hqk : q'.k = q.k)
    (hd1 : ∃ pu, Dq.DHI W rm (dcs W d (s.X.set w (withT x u))) pu bigN m' q'.ws q'.P q'.T) (hd2 : ∀ e, e ≠ d → ∀ k, clD e k x.cl = offD k) (hS : Sp.SHI W rS (scs (s.X.set w (withT x u))) sw' sP' sL')
    (hu : u ∈ q.P ++ s.sP ++ hand x) (hpi2 : sP' = s.sP ∨ s.sL = some w) (hl : ∀ v, v ∈ q.P ++ s.sP ++ hand x → v = u ∨ v ∈ q'.P ++ sP') (hl2 : ∀ v, v ∈ q'.P ++ sP' → v ∈ q.P ++ s.sP ++ hand x) (hq2 : q.P = [] → q'.P = []) (hm : s.m ≤ m') (htv : tv' ≤ m')
    (hph : phiP 12 q'.P + phiP 10 sP' + 200 * lenW u + 9 ≤ phiP 12 q.P + phiP 10 s.sP + base x) (K : Nat) (hK : 1 ≤ K) :
    (tkOf u).Ok ∧ u = ((pkT (tkOf u) : Nat) : Int) ∧ (¬ (tkOf u).f + K < (tkOf u).t → Next n W rm rS part os rts s (s.go w d (withT x u) q' s.ms s.nc sw' sP' sL' tv' m') w) ∧
    ((tkOf u).f + K < (tkOf u).t → ∀ cc, Next n W rm rS part os rts s (s.go w d (splitT (withT x u) K cc) q' s.ms s.nc sw' sP' sL' tv' m') w) := by
  have hc := got_core h hone hx hd hq h5 hp hqk hd1 hd2 hS hu hpi2 hl hl2 hq2 hm htv
  obtain ⟨w1, w2, w3, w4⟩ := (h.wv u ((InW_iff hx hq).2 (.inr hu))).tk
  have hg := Phi_go (os := os) (R := rts.length) (part := part) (x' := withT x u) (q' := q') (ms' := s.ms) (nc' := s.nc) (sw' := sw') (sP' := sP') (sL' := sL') (tv' := tv') (m' := m') hx hq
  have e1 : phi (withT x u) = 3 * (x.to - x.at_) + ((tkOf u).t - (tkOf u).f) + 9 := rfl
  have e2 : phi x = 3 * (x.to - x.at_) + (x.x.t - x.x.f) + base x := rfl
  refine ⟨w3.ok, w1, fun _ => ⟨hc, .inl ?_⟩, fun hlt cc => ?_⟩
  · omega
  · have hx1 : (s.go w d (withT x u) q' s.ms s.nc sw' sP' sL' tv' m').X[w]? = some (withT x u) := get_set hx
    obtain ⟨q1, hq1⟩ := hc.dw hx1
    have hs := split_core hc hone hx1 hq1 rfl K cc hK hlt (Nat.le_refl _) (tv' := tv') htv
    have hg2 := Phi_go (os := os) (R := rts.length) (part := part) (x' := splitT (withT x u) K cc) (q' := q1) (ms' := s.ms) (nc' := s.nc) (sw' := sw') (sP' := sP') (sL' := sL') (tv' := tv') (m' := m') hx1 hq1
    have hs2 : MInv n W rm rS part os rts ((s.go w d (withT x u) q' s.ms s.nc sw' sP' sL' tv' m').go w w (splitT (withT x u) K cc) q1 s.ms s.nc sw' sP' sL' tv' m') := hs
    rw [go_go hq1] at hs2 hg2
    refine ⟨hs2, .inl ?_⟩
    have hrok : (restT (withT x u) K).Ok := ⟨w3.ok.a1, by show (tkOf u).f + K ≤ (tkOf u).t; omega, w3.ok.t1⟩
    have e3 : phi (splitT (withT x u) K cc) = 3 * (x.to - x.at_) + ((tkOf u).f + K - (tkOf u).f) + (200 * ((tkOf u).t - ((tkOf u).f + K)) + 20 + 9) := by
      show 3 * (x.to - x.at_) + ((tkOf u).f + K - (tkOf u).f) + base (splitT (withT x u) K cc) = _
      rw [base2 rfl]
      show 3 * (x.to - x.at_) + ((tkOf u).f + K - (tkOf u).f) + (200 * lenW ((pkT (restT (withT x u) K) : Nat) : Int) + (20 - 0) + 9) = _
      rw [lenW_pk hrok]
    have e4 : phiO os s.ms = phiO os (s.go w d (withT x u) q' s.ms s.nc sw' sP' sL' tv' m').ms := rfl
    have e5 : phiP 10 sP' = phiP 10 (s.go w d (withT x u) q' s.ms s.nc sw' sP' sL' tv' m').sP := rfl
    have e6 : (s.go w d (withT x u) q' s.ms s.nc sw' sP' sL' tv' m').nc = s.nc := rfl
    rw [← e4, ← e5, e6] at hg2
    omega
end got
open Go.Sep
def AtS (x : WK) (y : Sp.SK) : Prop :=
  y.on = true ∧ ((x.st = 3 ∧ x.cl = .sp y ∧ y.w = x.push ∧ 0 < x.push ∧ (x.tn = 0 ∨ x.tn = 1 ∨ x.tn = 4)) ∨ (x.st = 7 ∧ x.push = 0 ∧ y.w = 0 ∧ (x.cl = .sp y ∨ (x.cl = .none ∧ y.s = 0))))
theorem AtS.n {x : WK} {y : Sp.SK} (h : AtS x y) : clN x.cl = y.s := by
  rcases h.2 with ⟨_, h, _⟩ | ⟨_, _, _, h | ⟨h, h2⟩⟩
  · rw [h]; rfl
  · rw [h]; rfl
  · rw [h, h2]; rfl
theorem AtS.d {x : WK} {y : Sp.SK} (h : AtS x y) (e k : Nat) : clD e k x.cl = offD k := by
  rcases h.2 with ⟨_, h, _⟩ | ⟨_, _, _, h | ⟨h, h2⟩⟩ <;> (rw [h]; rfl)
theorem AtS.tk {x : WK} {y : Sp.SK} (h : AtS x y) (hs : y.s ≤ 3) : takenW x.cl = [] := by
  rcases h.2 with ⟨_, h, _⟩ | ⟨_, _, _, h | ⟨h, h2⟩⟩
  · rw [h]; exact if_neg (by omega)
  · rw [h]; exact if_neg (by omega)
  · rw [h]; rfl
theorem AtS.pi {x : WK} {y : Sp.SK} (h : AtS x y) : x.st = 3 ∨ x.st = 7 := by
  rcases h.2 with ⟨h, _⟩ | ⟨h, _⟩
  · exact .inl h
  · exact .inr h
theorem phiP_len {c : Nat} {l : List Int} : c * l.length ≤ phiP c l := by
  induction l with
  | nil => exact Nat.zero_le _
  | cons w l ih => rw [phiP_cons, List.length_cons, Nat.mul_succ]; omega
theorem sum_get {α : Type} {f : α → Nat} : ∀ {l : List α} {i : Nat} {x : α}, l[i]? = some x → f x ≤ (l.map f).sum
  | a :: l, 0, x, h => by simp at h; subst h; simp
  | a :: l, i + 1, x, h => by
    have := sum_get (f := f) (l := l) (i := i) (x := x) (by simpa using h)
    simp only [List.map_cons, List.sum_cons]
    omega
  | [], i, x, h => by simp at h
section sp
variable {n W rm rS part : Nat} {os : List RO} {rts : List Int} {s : MS} {w : Nat} {x : WK} {q : DQ} {tv' m' : Nat} {y y' : Sp.SK} {sw' P' : List Int} {L' : Option Nat}
theorem cap_ok (h : MInv n W rm rS part os rts s) (hx : s.X[w]? = some x) (hA : AtS x y) (hst : x.st = 3) (hs : y.s ≤ 3) (hc : Phi os rts.length part s < 200 * rS + 200) : s.sP.length < rS := by
  have h1 := phiP_len (c := 10) (l := s.sP)
  have h2 := sum_get (f := phi) hx
  have hn := hA.n
  rcases hA.2 with ⟨_, hcl, hw, hp, htn⟩ | ⟨h7, _⟩
  rotate_left
  · omega
  have hu : InW s x.push := .inr (.inr ⟨w, x, hx, by unfold hand; rw [if_neg (by omega)]; exact List.mem_append_left _ (List.mem_singleton.2 rfl)⟩)
  obtain ⟨_, w2, w3, w4⟩ := (h.wv _ hu).tk
  have e : phi x = 3 * (x.to - x.at_) + (x.x.t - x.x.f) + base x := rfl
  rw [e, base3 hst (by omega)] at h2
  have h3 : 200 * s.sP.length ≤ phiP 10 s.sP := by
    have : ∀ l : List Int, (∀ u ∈ l, 1 ≤ lenW u) → 200 * l.length ≤ phiP 10 l := by
      intro l
      induction l with
      | nil => intro _; exact Nat.zero_le _
      | cons v l ih =>
        intro hl
        have h1 := ih fun u hu => hl u (.tail _ hu)
        have h2 := hl v (.head _)
        rw [phiP_cons, List.length_cons]
        omega
    refine this _ fun u hu => ?_
    obtain ⟨_, w2, w3, w4⟩ := (h.wv u (.inr (.inl hu))).tk
    omega
  unfold Phi at hc
  omega
theorem dq_keep (h : MInv n W rm rS part os rts s) (hx : s.X[w]? = some x) (hq : s.D[w]? = some q) (x' : WK) (hcl : ∀ e k, clD e k x'.cl = clD e k x.cl) (hm : s.m ≤ m') : ∃ pu, Dq.DHI W rm (dcs W w (s.X.set w x')) pu bigN m' q.ws q.P q.T := by
  have hwW : w < W := by have := (List.getElem?_eq_some_iff.1 hx).1; have := h.xl; omega
  obtain ⟨pu, hp⟩ := h.dh _ _ hq
  refine ⟨pu, ?_⟩
  rw [dcs_same hwW hwW h.xl hx (hcl _ _)]
  exact DHI_m hp hm
theorem step_sp_calm (h : MInv n W rm rS part os rts s) (hone : OneO os) (hx : s.X[w]? = some x) (hq : s.D[w]? = some q) (hA : AtS x y) (hs : y.s ≤ 3) (hs' : y'.s ≤ 3) (hw : y'.w = y.w) (hon : y'.on = true)
    (hS : Sp.SHI W rS ((scs s.X).set w y') sw' s.sP L') (hm : s.m ≤ m') (htv : tv' ≤ m') : MInv n W rm rS part os rts (s.go w w { x with cl := .sp y' } q s.ms s.nc sw' s.sP L' tv' m') := by
  have hst := hA.pi
  refine h.calm hone hx hq { x with cl := .sp y' } q rfl rfl rfl (dq_keep h hx hq _ (fun e k => by rw [hA.d]; rfl) hm) (fun e _ k => by rw [hA.d]; rfl) ?_ rfl rfl rfl ?_ Iff.rfl id id ?_ (fun h6 q0 hq0 => h.em _ _ _ hx hq0 h6) (fun _ => .inl (by show x.st ≤ 7; omega)) (fun z e h4 => by injection e with e; rw [← e] at h4; omega) hm htv
  · rw [scs_set]
    exact hS
  · unfold hand
    rw [hA.tk hs]
    show _ ++ (if y'.w = 0 ∧ y'.s = 4 then [y'.word] else []) = _
    rw [if_neg (c := y'.w = 0 ∧ y'.s = 4) (by omega)]
  · unfold WLoc
    dsimp only
    rcases hA.2 with ⟨h1, h2, h3, h4, h5⟩ | ⟨h1, h2, h3, h4⟩
    · rw [h1]; exact ⟨y', rfl, hon, by rw [hw, h3], h4, h5⟩
    · rw [h1]; exact ⟨h2, .inr ⟨y', rfl, hon, by rw [hw, h3]⟩⟩
theorem step_sp_more (h : MInv n W rm rS part os rts s) (hone : OneO os) (hx : s.X[w]? = some x) (hq : s.D[w]? = some q) (hA : AtS x y) (hH : Sp.SHI W rS ((scs s.X).set w y) s.sw s.sP s.sL)
    (hM : Sp.MoreS rS w y y' s.sP P' s.sL L') (hS : Sp.SHI W rS ((scs s.X).set w y') sw' P' L') (hm : s.m ≤ m') (htv : tv' ≤ m') :
    Next n W rm rS part os rts s (s.go w w { x with cl := .sp y' } q s.ms s.nc sw' P' L' tv' m') w := by
  have hst := hA.pi
  have hn := hA.n
  have hxw := hA.2
  have hcs : ∀ h3 : y.s ≤ 3, ∀ h3' : y'.s ≤ 3, y'.w = y.w → y'.on = true → P' = s.sP → MInv n W rm rS part os rts (s.go w w { x with cl := .sp y' } q s.ms s.nc sw' P' L' tv' m') := by
    intro h3 h3' hw hon hP
    subst hP
    exact step_sp_calm h hone hx hq hA h3 h3' hw hon hS hm htv
  have hT3 : x.st = 3 → y.s < y'.s → y'.s ≤ 3 → P' = s.sP → Tr os rts.length part s (s.go w w { x with cl := .sp y' } q s.ms s.nc sw' P' L' tv' m') w := by
    intro h3 hlt hle hP
    subst hP
    refine Tr.less hx hq rfl rfl rfl rfl ?_
    rw [base3 h3 (by omega), base3 (x := { x with cl := .sp y' }) h3 hle]
    show 200 * lenW x.push + (15 - y'.s) + vt x.tn < 200 * lenW x.push + (15 - clN x.cl) + vt x.tn
    omega
  have hT7 : x.st = 7 → y.s ≤ 3 → y'.s ≤ 3 → P' = s.sP → QK s.D s.sP s.sL L' w x { x with cl := .sp y' } → Tr os rts.length part s (s.go w w { x with cl := .sp y' } q s.ms s.nc sw' P' L' tv' m') w := by
    intro h7 hle hle' hP hK
    subst hP
    exact Tr.calm hx hq rfl rfl rfl rfl rfl (by rw [base7 h7 (by omega)]; exact base7 h7 (by show y'.s ≠ 4; omega)) hK
  rcases hM with ⟨e0, eL, rfl, rfl, rfl⟩ | ⟨e0, eL, rfl, rfl, rfl⟩ | ⟨e0, eL, rfl, rfl, rfl⟩ | ⟨e0, eL, ew, ep, rfl, rfl, rfl⟩ | ⟨e0, eL, ew, ⟨P0, u, hP, rfl⟩, rfl, rfl⟩ | ⟨e0, eL, ew, rfl, rfl, rfl⟩ | ⟨e0, eL, ew, rfl, hP, rfl⟩
  · refine ⟨hcs (by omega) (by omega) rfl hA.1 rfl, ?_⟩
    rcases hst with h3 | h7
    · exact Tr.calm hx hq rfl rfl rfl rfl rfl (by rw [base3 h3 (by omega), base3 (x := { x with cl := .sp y' }) h3 (by show y'.s ≤ 3; omega)]; show 200 * lenW x.push + (15 - y'.s) + vt x.tn = _; omega) (.inl ⟨h3, h3, by omega, e0, eL, rfl⟩)
    · exact hT7 h7 (by omega) (by omega) rfl (.inr (.inr (.inl ⟨h7, h7, by omega, e0, eL, rfl⟩)))
  · refine ⟨hcs (by omega) (by show 1 ≤ 3; decide) rfl hA.1 rfl, ?_⟩
    rcases hst with h3 | h7
    · exact hT3 h3 (by show y.s < 1; omega) (by show 1 ≤ 3; decide) rfl
    · exact hT7 h7 (by omega) (by show 1 ≤ 3; decide) rfl (.inr (.inr (.inr (.inl ⟨h7, h7, by omega, rfl, eL, rfl⟩))))
  · refine ⟨hcs (by omega) (by show 2 ≤ 3; decide) rfl hA.1 rfl, ?_⟩
    rcases hst with h3 | h7
    · exact hT3 h3 (by show y.s < 2; omega) (by show 2 ≤ 3; decide) rfl
    · exact hT7 h7 (by omega) (by show 2 ≤ 3; decide) rfl (.inr (.inr (.inr (.inr (.inl ⟨h7, h7, eL, eL, by show 2 = clN x.cl + 1; omega, by show 2 ≤ 3; decide⟩)))))
  · refine ⟨hcs (by omega) (by show 3 ≤ 3; decide) rfl hA.1 rfl, ?_⟩
    rcases hxw with ⟨h3, _⟩ | ⟨_, _, h7, _⟩
    · exact hT3 h3 (by show y.s < 3; omega) (by show 3 ≤ 3; decide) rfl
    · omega
  · refine ⟨hcs (by omega) (by show 3 ≤ 3; decide) rfl hA.1 rfl, ?_⟩
    rcases hxw with ⟨h3, _, h4, h5, _⟩ | ⟨h7, _⟩
    · omega
    · exact hT7 h7 (by omega) (by show 3 ≤ 3; decide) rfl (.inr (.inr (.inr (.inr (.inl ⟨h7, h7, eL, eL, by show 3 = clN x.cl + 1; omega, by show 3 ≤ 3; decide⟩)))))
  · rcases hxw with ⟨h3, hcl, h4, h5, htn⟩ | ⟨_, _, h7, _⟩
    rotate_left
    · omega
    have hwx := h.wk _ _ hx
    have hes : es { x with cl := .sp { y with s := 4 } } = es x := rfl
    have hh : hand x = [x.push] := by
      unfold hand
      rw [hA.tk (by omega), if_neg (by omega)]
      rfl
    have hh' : hand { x with cl := .sp { y with s := 4 } } = [x.push] := by
      unfold hand
      show (if x.push = 0 then [] else [x.push]) ++ (if y.w = 0 ∧ (4 : Nat) = 4 then [y.word] else []) = [x.push]
      rw [if_neg (by omega), if_neg (c := y.w = 0 ∧ (4 : Nat) = 4) (by omega)]
      rfl
    refine ⟨h.go hx hq { x with cl := .sp { y with s := 4 } } q rfl rfl (dq_keep h hx hq _ (fun e k => by rw [hA.d]; rfl) hm) (fun e _ k => by rw [hA.d]; rfl) ?_ h.mi (fun _ e => e) (Nat.le_refl _) ⟨hwx.a1, hwx.a2, hwx.a3, hwx.x1, hwx.x2, hwx.nr, ?_⟩ (fun h6 => ?_) (fun e => absurd rfl e) (fun u hu => .inl ?_) (fun j o f y2 hj hf hy hc => .inr ?_) (fun i hi => .inl hi) hone (fun i y2 hi hr => .inr hr) (fun _ => .inl (by show x.st ≤ 7; omega)) (fun z e _ _ => ?_) (.inr eL) hm htv (Nat.le_trans h.nm hm), .inl ?_⟩
    · rw [scs_set]
      exact hS
    · unfold WLoc
      dsimp only
      rw [h3]
      exact ⟨{ y with s := 4 }, rfl, hA.1, h4, h5, htn⟩
    · have h6 : 6 ≤ x.st := h6
      omega
    · rw [hh'] at hu
      rw [hh]
      simp only [List.mem_append, List.mem_singleton] at hu ⊢
      rcases hu with (hu | hu | hu) | hu
      · exact .inl (.inl hu)
      · exact .inl (.inr hu)
      · exact .inr (by rw [hu, h4])
      · exact .inr hu
    · rw [hh] at hc
      rw [hh']
      obtain ⟨t, ht, h1⟩ := hc
      refine ⟨t, ht.imp id fun ⟨u, hu, e⟩ => ⟨u, ?_, e⟩, h1⟩
      simp only [List.mem_append, List.mem_singleton] at hu ⊢
      rcases hu with (hu | hu) | hu
      · exact .inl (.inl hu)
      · exact .inl (.inr (.inl hu))
      · exact .inr hu
    · injection e with e
      rw [← e]
      exact List.mem_append_right _ (List.mem_singleton.2 rfl)
    · have hg := Phi_go (os := os) (R := rts.length) (part := part) (x' := { x with cl := .sp { y with s := 4 } }) (q' := q) (ms' := s.ms) (nc' := s.nc) (sw' := sw') (sP' := s.sP ++ [y.w]) (sL' := s.sL) (tv' := tv') (m' := m') hx hq
      have e1 : phiP 10 (s.sP ++ [y.w]) = phiP 10 s.sP + (200 * lenW x.push + 10) := by rw [phiP_app, phiP_one, h4]
      have e2 : phi x = 3 * (x.to - x.at_) + (x.x.t - x.x.f) + base x := rfl
      have e3 : phi { x with cl := .sp { y with s := 4 } } = 3 * (x.to - x.at_) + (x.x.t - x.x.f) + (1 + vt x.tn) := by
        show 3 * (x.to - x.at_) + (x.x.t - x.x.f) + base { x with cl := .sp { y with s := 4 } } = _
        rw [base3' (x := { x with cl := .sp { y with s := 4 } }) h3 (by show ¬ 4 ≤ 3; decide)]
      rw [base3 h3 (by omega)] at e2
      rw [e1, e2, e3] at hg
      omega
  · rcases hxw with ⟨_, _, h4, h5, _⟩ | ⟨h7, hp, _, hcl⟩
    · omega
    have hwx := h.wk _ _ hx
    have hh : hand x = [] := by
      unfold hand
      rw [hA.tk (by omega), if_pos hp]
      rfl
    have hh' : hand { x with cl := .sp { y with s := 4 } } = [y.word] := by
      unfold hand
      show (if x.push = 0 then [] else [x.push]) ++ (if y.w = 0 ∧ (4 : Nat) = 4 then [y.word] else []) = [y.word]
      rw [if_pos hp, if_pos (c := y.w = 0 ∧ (4 : Nat) = 4) ⟨ew, rfl⟩]
      rfl
    refine ⟨h.go hx hq { x with cl := .sp { y with s := 4 } } q rfl rfl (dq_keep h hx hq _ (fun e k => by rw [hA.d]; rfl) hm) (fun e _ k => by rw [hA.d]; rfl) ?_ h.mi (fun _ e => e) (Nat.le_refl _) ⟨hwx.a1, hwx.a2, hwx.a3, hwx.x1, hwx.x2, hwx.nr, ?_⟩ (fun h6 q0 hq0 => ?_) (fun e => absurd rfl e) (fun u hu => .inl ?_) (fun j o f y2 hj hf hy hc => .inr ?_) (fun i hi => .inl hi) hone (fun i y2 hi hr => .inr hr) (fun _ => .inl (by show x.st ≤ 7; omega)) (fun z e _ h0 => ?_) (.inr eL) hm htv (Nat.le_trans h.nm hm), .inl ?_⟩
    · rw [scs_set]
      exact hS
    · unfold WLoc
      dsimp only
      rw [h7]
      exact ⟨hp, .inr ⟨{ y with s := 4 }, rfl, hA.1, ew⟩⟩
    · rcases set_get hq0 with ⟨_, rfl⟩ | ⟨_, hq0⟩
      · exact h.em _ _ _ hx hq (by omega)
      · exact h.em _ _ _ hx hq0 (by omega)
    · rw [hh'] at hu
      rw [hh, hP]
      simp only [List.mem_append, List.mem_singleton, List.not_mem_nil, or_false] at hu ⊢
      rcases hu with (hu | hu) | hu
      · exact .inl hu
      · exact .inr (.inl hu)
      · exact .inr (.inr hu)
    · rw [hh, hP] at hc
      rw [hh']
      obtain ⟨t, ht, h1⟩ := hc
      refine ⟨t, ht.imp id fun ⟨u, hu, e⟩ => ⟨u, ?_, e⟩, h1⟩
      simp only [List.mem_append, List.mem_singleton, List.not_mem_nil, or_false] at hu ⊢
      rcases hu with hu | hu | hu
      · exact .inl (.inl hu)
      · exact .inl (.inr hu)
      · exact .inr hu
    · injection e with e
      rw [← e] at h0
      have h0 : 0 < y.w := h0
      omega
    · have hg := Phi_go (os := os) (R := rts.length) (part := part) (x' := { x with cl := .sp { y with s := 4 } }) (q' := q) (ms' := s.ms) (nc' := s.nc) (sw' := sw') (sP' := P') (sL' := s.sL) (tv' := tv') (m' := m') hx hq
      have e1 : phiP 10 s.sP = phiP 10 P' + (200 * lenW y.word + 10) := by rw [hP, phiP_app, phiP_one]
      have e2 : phi x = 3 * (x.to - x.at_) + (x.x.t - x.x.f) + base x := rfl
      have e3 : phi { x with cl := .sp { y with s := 4 } } = 3 * (x.to - x.at_) + (x.x.t - x.x.f) + (200 * lenW y.word + 9) := by
        show 3 * (x.to - x.at_) + (x.x.t - x.x.f) + base { x with cl := .sp { y with s := 4 } } = _
        rw [base7' (x := { x with cl := .sp { y with s := 4 } }) h7 rfl]
        rfl
      rw [base7 h7 (by omega)] at e2
      rw [e1, e2, e3] at hg
      omega
theorem step_put_ok (h : MInv n W rm rS part os rts s) (hone : OneO os) (hx : s.X[w]? = some x) (hq : s.D[w]? = some q) (hA : AtS x y) (hst : x.st = 3) (h4 : y.s = 4)
    (hS : Sp.SHI W rS ((scs s.X).set w { y with on := false }) sw' s.sP none) (hm : s.m ≤ m') (htv : tv' ≤ m') :
    Next n W rm rS part os rts s (s.go w w { x with st := x.tn, push := 0, cl := .none } q s.ms s.nc sw' s.sP none tv' m') w := by
  have hwW : w < W := by have := (List.getElem?_eq_some_iff.1 hx).1; have := h.xl; omega
  have hwx := h.wk _ _ hx
  have hd := hA.d
  have hn := hA.n
  rcases hA.2 with ⟨h3, hcl, hyw, hp, htn⟩ | ⟨h7, _⟩
  rotate_left
  · omega
  have hes : es x = x.tn := by unfold es; rw [if_pos (.inr h3)]
  have hes' : es { x with st := x.tn, push := 0, cl := .none } = x.tn := es_of (by dsimp only; omega) (by dsimp only; omega)
  have hpi := h.pi _ _ y hx hcl h4 (by omega)
  have hh : hand x = [x.push] := by
    unfold hand
    rw [hcl, if_neg (by omega)]
    show [x.push] ++ (if y.w = 0 ∧ y.s = 4 then [y.word] else []) = _
    rw [if_neg (by omega)]
    rfl
  have hh' : hand { x with st := x.tn, push := 0, cl := .none } = [] := rfl
  refine ⟨h.go hx hq { x with st := x.tn, push := 0, cl := .none } q rfl rfl (dq_keep h hx hq _ (fun e k => by rw [hd]; rfl) hm) (fun e _ k => by rw [hd]; rfl) ?_ h.mi (fun _ e => e) (Nat.le_refl _)
    ⟨hwx.a1, hwx.a2, by rw [hwx.a3, hes, hes'], hwx.x1, fun e => by rw [hes', ← hes]; exact hwx.x2 e, fun e => hwx.nr (by rw [hes, ← hes']; exact e), ?_⟩ (fun h6 => ?_) (fun e => absurd rfl e) (fun u hu => .inl ?_) (fun j o f y2 hj hf hy hc => .inr ?_) (fun i hi => .inl hi) hone (fun i y2 hi hr => .inr hr) (fun _ => .inl (by show x.tn ≤ 7; omega)) (fun _ e => by cases e) (.inl rfl) hm htv (Nat.le_trans h.nm hm), Tr.less hx hq rfl rfl rfl rfl ?_⟩
  · have hl : w < (scs s.X).length := (List.getElem?_eq_some_iff.1 (scs_get hx)).1
    have e : atS { x with st := x.tn, push := 0, cl := .none } = offS w := by
      show offS x.k = offS w
      rw [h.xk _ _ hx]
    rw [scs_set, e]
    exact SHI_off hS hl
  · unfold WLoc
    dsimp only
    rcases htn with h7 | h7 | h7 <;> (rw [h7]; exact ⟨rfl, rfl⟩)
  · exact absurd (show 6 ≤ x.tn from h6) (by omega)
  · rw [hh', List.append_nil] at hu
    exact List.mem_append_left _ hu
  · rw [hh] at hc
    rw [hh', List.append_nil]
    obtain ⟨t, ht, h1⟩ := hc
    refine ⟨t, ht.imp id fun ⟨u, hu, e⟩ => ⟨u, ?_, e⟩, h1⟩
    simp only [List.mem_append, List.mem_singleton] at hu ⊢
    rcases hu with (hu | hu) | hu
    · exact .inl hu
    · exact .inr hu
    · rw [hu, ← hyw]; exact .inr hpi
  · rw [base3' h3 (by omega), base_tn (x := { x with st := x.tn, push := 0, cl := .none }) htn]
    show vt x.tn < 1 + vt x.tn
    omega
theorem step_take_none (h : MInv n W rm rS part os rts s) (hone : OneO os) (hx : s.X[w]? = some x) (hq : s.D[w]? = some q) (hA : AtS x y) (hst : x.st = 7) (h2 : y.s = 2) (hL : s.sL = some w) (hP : s.sP = [])
    (hS : Sp.SHI W rS ((scs s.X).set w { y with on := false }) sw' s.sP none) (hm : s.m ≤ m') (htv : tv' ≤ m') :
    Next n W rm rS part os rts s (s.go w w { x with st := 8, cl := .none } q s.ms s.nc sw' s.sP none tv' m') w := by
  have hn := hA.n
  have hd := hA.d
  rcases hA.2 with ⟨h3, _⟩ | ⟨h7, hp, hyw, hcl⟩
  · omega
  have hes : es x = 7 := by rw [es_of (by omega) (by omega)]; exact h7
  have hes' : es { x with st := 8, cl := .none } = 8 := rfl
  refine ⟨h.calm hone hx hq { x with st := 8, cl := .none } q rfl rfl rfl (dq_keep h hx hq _ (fun e k => by rw [hd]; rfl) hm) (fun e _ k => by rw [hd]; rfl) ?_ rfl rfl rfl ?_ (by omega) (by omega) (by omega) ⟨rfl, hp⟩ (fun _ q0 hq0 => h.em _ _ _ hx hq0 (by omega)) (fun e => absurd hP e) (fun _ e => by cases e) hm htv, Tr.calm hx hq rfl rfl rfl rfl rfl ?_ (.inr (.inr (.inr (.inr (.inr (.inl ⟨h7, rfl, by omega, hL, rfl, hP⟩))))))⟩
  · have hl : w < (scs s.X).length := (List.getElem?_eq_some_iff.1 (scs_get hx)).1
    have e : atS { x with st := 8, cl := .none } = offS w := by
      show offS x.k = offS w
      rw [h.xk _ _ hx]
    rw [scs_set, e]
    exact SHI_off hS hl
  · unfold hand
    rw [hA.tk (by omega)]
    rfl
  · rw [base7 h7 (by omega), base8 (x := { x with st := 8, cl := .none }) (by show 8 ≤ 8; decide)]
end sp
open Go.Sep
theorem phiO_up {os : List RO} {ms ms' : List Nat} (hu : ∀ i, bitB ms i = true → bitB ms' i = true) : phiO os ms' ≤ phiO os ms := by
  unfold phiO
  induction os with
  | nil => exact Nat.le_refl _
  | cons o os ih =>
    simp only [List.map_cons, List.sum_cons]
    have : (if bitB ms' o.i then 0 else if o.p = 0 then 0 else 200 * o.p.toNat + 30) ≤ (if bitB ms o.i then 0 else if o.p = 0 then 0 else 200 * o.p.toNat + 30) := by
      by_cases e : bitB ms o.i = true
      · rw [if_pos e, if_pos (hu _ e)]; exact Nat.le_refl _
      · rw [if_neg e]
        by_cases e2 : bitB ms' o.i = true
        · rw [if_pos e2]; exact Nat.zero_le _
        · rw [if_neg e2]; exact Nat.le_refl _
    omega
theorem phiO_new {os : List RO} {ms ms' : List Nat} {j m : Nat} {o : RO} (hu : ∀ i, bitB ms i = true → bitB ms' i = true) (hj : os[j]? = some o) (h0 : bitB ms o.i = false) (h1 : bitB ms' o.i = true) (hp : o.p = (m : Int)) (hm : 0 < m) : phiO os ms' + (200 * m + 30) ≤ phiO os ms := by
  induction os generalizing j with
  | nil => simp at hj
  | cons a os ih =>
    have hup := phiO_up (os := os) hu
    unfold phiO at hup ih ⊢
    simp only [List.map_cons, List.sum_cons]
    cases j with
    | zero =>
      simp at hj; subst hj
      rw [if_pos h1, if_neg (show ¬ bitB ms a.i = true by rw [h0]; decide), if_neg (by omega), hp, Int.toNat_natCast]
      omega
    | succ j =>
      have := ih (j := j) (by simpa using hj)
      have : (if bitB ms' a.i then 0 else if a.p = 0 then 0 else 200 * a.p.toNat + 30) ≤ (if bitB ms a.i then 0 else if a.p = 0 then 0 else 200 * a.p.toNat + 30) := by
        by_cases e : bitB ms a.i = true
        · rw [if_pos e, if_pos (hu _ e)]; exact Nat.le_refl _
        · rw [if_neg e]
          by_cases e2 : bitB ms' a.i = true
          · rw [if_pos e2]; exact Nat.zero_le _
          · rw [if_neg e2]; exact Nat.le_refl _
      omega
section reach
variable {n W rm rS part : Nat} {os : List RO} {rts : List Int} {s : MS} {w : Nat} {x x1 : WK} {q : DQ} {tv' m' : Nat} {ms' : List Nat}
theorem step_claim_ok (h : MInv n W rm rS part os rts s) (hone : OneO os) (hx : s.X[w]? = some x) (hq : s.D[w]? = some q) (h0 : x.st = 0) (hp : 1 ≤ part) (hlt : s.nc * part < rts.length) (hm1 : s.m + 1 ≤ m') (htv : tv' ≤ m') :
    Next n W rm rS part os rts s (s.go w w { x with st := 1, at_ := s.nc * part, to := min rts.length (s.nc * part + part) } q s.ms (s.nc + 1) s.sw s.sP s.sL tv' m') w := by
  have hm : s.m ≤ m' := Nat.le_of_succ_le hm1
  have hwx := h.wk _ _ hx
  have hes : es x = 0 := by rw [es_of (by omega) (by omega)]; exact h0
  have hes' : es { x with st := 1, at_ := s.nc * part, to := min rts.length (s.nc * part + part) } = 1 := rfl
  have hlo := hwx.lo
  unfold WLoc at hlo
  rw [h0] at hlo
  obtain ⟨hcl, hpu⟩ := hlo
  have hat : ¬ x.at_ < x.to := fun e => by have := hwx.a3.1 e; omega
  have hnx : (s.nc + 1) * part = s.nc * part + part := Nat.succ_mul _ _
  refine ⟨h.go hx hq { x with st := 1, at_ := s.nc * part, to := min rts.length (s.nc * part + part) } q rfl rfl (dq_keep h hx hq _ (fun _ _ => rfl) hm) (fun _ _ _ => rfl) ?_ h.mi (fun _ e => e) (Nat.le_succ _)
    ⟨by show s.nc * part ≤ min rts.length (s.nc * part + part); omega, Nat.min_le_left _ _, ⟨fun _ => hes', fun _ => by show s.nc * part < min rts.length (s.nc * part + part); omega⟩, hwx.x1, fun e => ?_, fun e => ?_, ⟨hcl, hpu⟩⟩ (fun h6 => absurd (show 6 ≤ 1 from h6) (by decide)) (fun e => absurd rfl e) (fun u hu => .inl hu) (fun j o f y2 hj hf hy hc => .inr ?_) (fun i hi => .inl hi) hone (fun i y2 hi hr => .inr ?_) (fun _ => .inl (by show 1 ≤ 7; decide)) (fun y e => h.pi _ _ y hx e) (.inl rfl) hm htv (by have := h.nm; omega), .inl ?_⟩
  · rw [scs_same (x' := { x with st := 1, at_ := s.nc * part, to := min rts.length (s.nc * part + part) }) hx rfl]
    exact h.sh
  · have := (hwx.x2 e).1
    omega
  · rw [hes'] at e; omega
  · obtain ⟨t, ht, h1⟩ := hc
    exact ⟨t, ht, h1⟩
  · have hil := (List.getElem?_eq_some_iff.1 hi).1
    show (s.nc + 1) * part ≤ i ∨ (s.nc * part ≤ i ∧ i < min rts.length (s.nc * part + part))
    rw [hnx]
    rcases hr with hr | hr <;> omega
  · have hg := Phi_go (os := os) (R := rts.length) (part := part) (x' := { x with st := 1, at_ := s.nc * part, to := min rts.length (s.nc * part + part) }) (q' := q) (ms' := s.ms) (nc' := s.nc + 1) (sw' := s.sw) (sP' := s.sP) (sL' := s.sL) (tv' := tv') (m' := m') hx hq
    have e1 : phi x = 3 * (x.to - x.at_) + (x.x.t - x.x.f) + 10 := by unfold phi; rw [base0 h0]
    have e2 : phi { x with st := 1, at_ := s.nc * part, to := min rts.length (s.nc * part + part) } = 3 * (min rts.length (s.nc * part + part) - s.nc * part) + (x.x.t - x.x.f) + 9 := rfl
    rw [e1, e2, hnx] at hg
    omega
theorem step_claim_none (h : MInv n W rm rS part os rts s) (hone : OneO os) (hx : s.X[w]? = some x) (hq : s.D[w]? = some q) (h0 : x.st = 0) (hle : rts.length ≤ s.nc * part) (hm1 : s.m + 1 ≤ m') (htv : tv' ≤ m') :
    Next n W rm rS part os rts s (s.go w w { x with st := 5, at_ := 0, to := 0 } q s.ms (s.nc + 1) s.sw s.sP s.sL tv' m') w := by
  have hm : s.m ≤ m' := Nat.le_of_succ_le hm1
  have hwx := h.wk _ _ hx
  have hes : es x = 0 := by rw [es_of (by omega) (by omega)]; exact h0
  have hes' : es { x with st := 5, at_ := 0, to := 0 } = 5 := rfl
  have hlo := hwx.lo
  unfold WLoc at hlo
  rw [h0] at hlo
  obtain ⟨hcl, hpu⟩ := hlo
  have hat : ¬ x.at_ < x.to := fun e => by have := hwx.a3.1 e; omega
  have hnx : (s.nc + 1) * part = s.nc * part + part := Nat.succ_mul _ _
  refine ⟨h.go hx hq { x with st := 5, at_ := 0, to := 0 } q rfl rfl (dq_keep h hx hq _ (fun _ _ => rfl) hm) (fun _ _ _ => rfl) ?_ h.mi (fun _ e => e) (Nat.le_succ _)
    ⟨Nat.le_refl _, Nat.zero_le _, ⟨fun e => absurd (show 0 < 0 from e) (by decide), fun e => by rw [hes'] at e; omega⟩, hwx.x1, fun e => ?_, fun e => ?_, ⟨hpu, .inl hcl⟩⟩ (fun h6 => absurd (show 6 ≤ 5 from h6) (by decide)) (fun e => absurd rfl e) (fun u hu => .inl hu) (fun j o f y2 hj hf hy hc => .inr ?_) (fun i hi => .inl hi) hone (fun i y2 hi hr => .inr ?_) (fun _ => .inl (by show 5 ≤ 7; decide)) (fun y e => h.pi _ _ y hx e) (.inl rfl) hm htv (by have := h.nm; omega), .inl ?_⟩
  · rw [scs_same (x' := { x with st := 5, at_ := 0, to := 0 }) hx rfl]
    exact h.sh
  · have := (hwx.x2 e).1
    omega
  · rw [hnx]; omega
  · obtain ⟨t, ht, h1⟩ := hc
    exact ⟨t, ht, h1⟩
  · have hil := (List.getElem?_eq_some_iff.1 hi).1
    rw [hnx]
    rcases hr with hr | hr <;> omega
  · have hg := Phi_go (os := os) (R := rts.length) (part := part) (x' := { x with st := 5, at_ := 0, to := 0 }) (q' := q) (ms' := s.ms) (nc' := s.nc + 1) (sw' := s.sw) (sP' := s.sP) (sL' := s.sL) (tv' := tv') (m' := m') hx hq
    have e1 : phi x = 3 * (x.to - x.at_) + (x.x.t - x.x.f) + 10 := by unfold phi; rw [base0 h0]
    have e2 : phi { x with st := 5, at_ := 0, to := 0 } = 3 * (0 - 0) + (x.x.t - x.x.f) + (8 - clN x.cl) := rfl
    rw [e1, e2, hnx] at hg
    omega
structure Eats (W R part : Nat) (os : List RO) (rts : List Int) (ms : List Nat) (nc : Nat) (x x1 : WK) (y : Int) : Prop where
  st : x.st = 1 ∨ x.st = 4
  k : x1.k = x.k
  cl : x1.cl = x.cl
  st1 : x1.st = 0 ∨ x1.st = 1 ∨ x1.st = 4
  wk : WOk W R part os ms nc x1
  cov : ∀ (j : Nat) (o : RO) (f : Nat) (y0 : Int), os[j]? = some o → o.ws[f]? = some y0 → x.x.a = o.i → x.x.f ≤ f → f < x.x.t → y0 = y ∨ (x1.x.a = o.i ∧ x1.x.f ≤ f ∧ f < x1.x.t)
  rt : ∀ (i : Nat) (y0 : Int), rts[i]? = some y0 → x.at_ ≤ i → i < x.to → y0 = y ∨ (x1.at_ ≤ i ∧ i < x1.to)
  ph : phi x1 + 1 ≤ phi x
theorem none14 {W : Nat} {x : WK} (hlo : WLoc W x) (h : x.st = 0 ∨ x.st = 1 ∨ x.st = 4) : x.cl = .none ∧ x.push = 0 := by
  unfold WLoc at hlo
  rcases h with h | h | h <;> (rw [h] at hlo; exact hlo)
theorem step_reach_old (h : MInv n W rm rS part os rts s) (hone : OneO os) (hx : s.X[w]? = some x) (hq : s.D[w]? = some q) {y : Int} (hE : Eats W rts.length part os rts s.ms s.nc x x1 y) (hM : MI n ms') (hup : ∀ i, bitB s.ms i = true → bitB ms' i = true)
    (hy : HitM os ms' y) (hnew : ∀ i, bitB ms' i = true → bitB s.ms i = true ∨ ∃ (j : Nat) (o : RO), os[j]? = some o ∧ o.i = i ∧ Rch os rts j ∧ o.p = 0) (hm : s.m ≤ m') (htv : tv' ≤ m') :
    Next n W rm rS part os rts s (s.go w w x1 q ms' s.nc s.sw s.sP s.sL tv' m') w := by
  have hwx := h.wk _ _ hx
  obtain ⟨hcl, hpu⟩ := none14 hwx.lo (by rcases hE.st with e | e <;> simp [e])
  have hcl1 : x1.cl = .none := by rw [hE.cl, hcl]
  have hpu1 : x1.push = 0 := (none14 hE.wk.lo hE.st1).2
  have hh : hand x = [] := hand_none hcl hpu
  have hh1 : hand x1 = [] := hand_none hcl1 hpu1
  refine ⟨h.go hx hq x1 q hE.k rfl (dq_keep h hx hq _ (fun _ _ => by rw [hE.cl]) hm) (fun _ _ _ => by rw [hE.cl]) ?_ hM hup (Nat.le_refl _) (hE.wk.up hup (Nat.le_refl _)) (fun h6 => by have := hE.st1; omega) (fun e => absurd rfl e) (fun u hu => .inl ?_) (fun j o f y2 hj hf hy2 hc => ?_)
    (fun i hi => (hnew i hi).imp id fun ⟨j, o, h1, h2, h3, h4⟩ => ⟨j, o, h1, h2, h3, fun f hf => by omega⟩) hone (fun i y2 hi hr => ?_) (fun _ => .inl (by have := hE.st1; omega)) (fun y e => by rw [hcl1] at e; cases e) (.inl rfl) hm htv (Nat.le_trans h.nm hm), .inl ?_⟩
  · rw [scs_same (x' := x1) hx (by unfold atS; rw [hE.k, hE.cl])]
    exact h.sh
  · rw [hh1] at hu; rw [hh]; exact hu
  · rw [hh] at hc
    rw [hh1]
    obtain ⟨t, ht, h1, h2, h3⟩ := hc
    rcases ht with rfl | ⟨u, hu, rfl⟩
    · rcases hE.cov j o f y2 hj hy2 h1 h2 h3 with rfl | h4
      · exact .inl hy
      · exact .inr ⟨x1.x, .inl rfl, h4⟩
    · exact .inr ⟨tkOf u, .inr ⟨u, hu, rfl⟩, h1, h2, h3⟩
  · rcases hr with hr | ⟨h1, h2⟩
    · exact .inr (.inl hr)
    · rcases hE.rt i y2 hi h1 h2 with rfl | h3
      · exact .inl hy
      · exact .inr (.inr h3)
  · have hg := Phi_go (os := os) (R := rts.length) (part := part) (x' := x1) (q' := q) (ms' := ms') (nc' := s.nc) (sw' := s.sw) (sP' := s.sP) (sL' := s.sL) (tv' := tv') (m' := m') hx hq
    have h1 := phiO_up (os := os) hup
    have h2 := hE.ph
    omega
abbrev newT (x1 : WK) (cc : Nat) (t : TK) : WK := { x1 with st := 2, tn := x1.st, push := ((pkT t : Nat) : Int), cl := .dq x1.k (pushK cc ((pkT t : Nat) : Int)) }
theorem step_reach_new (h : MInv n W rm rS part os rts s) (hone : OneO os) (hx : s.X[w]? = some x) (hq : s.D[w]? = some q) {y : Int} (hE : Eats W rts.length part os rts s.ms s.nc x x1 y) (hM : MI n ms') (hup : ∀ i, bitB s.ms i = true → bitB ms' i = true)
    {j m : Nat} {o : RO} (hj : os[j]? = some o) (hy : y = (o.i : Int) + 1) (h0 : bitB s.ms o.i = false) (h1 : bitB ms' o.i = true) (hp : o.p = (m : Int)) (hm0 : 0 < m) (hm1 : m ≤ 4095) (hoi : o.i < 65536) (hr : Rch os rts j)
    (hnew : ∀ i, bitB ms' i = true → bitB s.ms i = true ∨ i = o.i) (cc : Nat) (hm : s.m ≤ m') (htv : tv' ≤ m') :
    Next n W rm rS part os rts s (s.go w w (newT x1 cc ⟨o.i, 0, m⟩) q ms' s.nc s.sw s.sP s.sL tv' m') w := by
  have hwx := h.wk _ _ hx
  have hxk := h.xk _ _ hx
  have hst1 := hE.st1
  obtain ⟨hcl, hpu⟩ := none14 hwx.lo (by rcases hE.st with e | e <;> simp [e])
  have hpu1 : x1.push = 0 := (none14 hE.wk.lo hE.st1).2
  have hes1 : es x1 = x1.st := es_of (by omega) (by omega)
  have hes' : es (newT x1 cc ⟨o.i, 0, m⟩) = x1.st := rfl
  have htok : (⟨o.i, 0, m⟩ : TK).Ok := ⟨hoi, Nat.zero_le _, hm1⟩
  have hpb := pkT_bd htok
  have hh : hand x = [] := hand_none hcl hpu
  have hh' : hand (newT x1 cc ⟨o.i, 0, m⟩) = [((pkT ⟨o.i, 0, m⟩ : Nat) : Int)] := hand_push (w := x1.k) (cc := cc) rfl rfl (by omega)
  have hyM : HitM os ms' y := .inr ⟨j, o, hj, hy, h1⟩
  have hk1 : x1.k = w := by rw [hE.k, hxk]
  refine ⟨h.go hx hq (newT x1 cc ⟨o.i, 0, m⟩) q hE.k rfl (push_dhi h hx hq hcl (newT x1 cc ⟨o.i, 0, m⟩) cc (by show CL.dq x1.k _ = _; rw [hk1]) (by omega) (by show _ < (2000000000000 : Int); omega) hm) (fun e he k => ?_) ?_ hM hup (Nat.le_refl _)
    ⟨hE.wk.a1, hE.wk.a2, by rw [hE.wk.a3, hes1, hes'], hE.wk.x1, fun e => ⟨by have := (hE.wk.x2 e).1; omega, (hE.wk.x2 e).2.up hup⟩, fun e => hE.wk.nr (by omega), ?_⟩ (fun h6 => absurd (show 6 ≤ 2 from h6) (by decide)) (fun e => absurd rfl e) (fun u hu => ?_) (fun j2 o2 f y2 hj2 hf hy2 hc => ?_)
    (fun i hi => (hnew i hi).imp id fun e => ⟨j, o, hj, e.symm, hr, fun f hf => ?_⟩) hone (fun i y2 hi hrr => ?_) (fun _ => .inl (by show 2 ≤ 7; decide)) (fun y e => by cases e) (.inl rfl) hm htv (Nat.le_trans h.nm hm), .inl ?_⟩
  · rw [hcl]
    show clD e k (CL.dq x1.k _) = _
    rw [hk1]
    exact clD_ne he
  · rw [scs_same (x' := newT x1 cc ⟨o.i, 0, m⟩) hx (by unfold atS; rw [hcl]; show offS x1.k = offS x.k; rw [hE.k])]
    exact h.sh
  · unfold WLoc
    exact ⟨_, rfl, rfl, rfl, rfl, by show (0 : Int) < ((pkT ⟨o.i, 0, m⟩ : Nat) : Int); omega, hst1⟩
  · rw [hh'] at hu
    rw [hh]
    rcases List.mem_append.1 hu with hu | hu
    · exact .inl (List.mem_append_left _ hu)
    · rw [List.mem_singleton.1 hu]
      exact .inr ⟨⟨o.i, 0, m⟩, rfl, hm0, htok, j, o, hj, rfl, by show (m : Int) ≤ o.p; omega, h1⟩
  · rw [hh] at hc
    rw [hh']
    obtain ⟨t, ht, g1, g2, g3⟩ := hc
    rcases ht with rfl | ⟨u, hu, rfl⟩
    · rcases hE.cov j2 o2 f y2 hj2 hy2 g1 g2 g3 with rfl | h4
      · exact .inl hyM
      · exact .inr ⟨x1.x, .inl rfl, h4⟩
    · rw [List.append_nil] at hu
      exact .inr ⟨tkOf u, .inr ⟨u, List.mem_append_left _ hu, rfl⟩, g1, g2, g3⟩
  · rw [hh']
    exact ⟨⟨o.i, 0, m⟩, .inr ⟨_, List.mem_append_right _ (List.mem_singleton.2 rfl), (tkOf_pk htok).symm⟩, rfl, Nat.zero_le _, by show f < m; omega⟩
  · rcases hrr with hrr | ⟨g1, g2⟩
    · exact .inr (.inl hrr)
    · rcases hE.rt i y2 hi g1 g2 with rfl | g3
      · exact .inl hyM
      · exact .inr (.inr g3)
  · have hg := Phi_go (os := os) (R := rts.length) (part := part) (x' := newT x1 cc ⟨o.i, 0, m⟩) (q' := q) (ms' := ms') (nc' := s.nc) (sw' := s.sw) (sP' := s.sP) (sL' := s.sL) (tv' := tv') (m' := m') hx hq
    have g1 := phiO_new hup hj h0 h1 hp hm0
    have g2 := hE.ph
    have e1 : phi x1 = 3 * (x1.to - x1.at_) + (x1.x.t - x1.x.f) + vt x1.st := by unfold phi; rw [base_tn hst1]
    have e2 : phi (newT x1 cc ⟨o.i, 0, m⟩) = 3 * (x1.to - x1.at_) + (x1.x.t - x1.x.f) + (200 * m + 20 + vt x1.st) := by
      show 3 * (x1.to - x1.at_) + (x1.x.t - x1.x.f) + base (newT x1 cc ⟨o.i, 0, m⟩) = _
      rw [base2 rfl]
      show _ + (200 * lenW ((pkT ⟨o.i, 0, m⟩ : Nat) : Int) + (20 - 0) + vt x1.st) = _
      rw [lenW_pk htok]
      rfl
    rw [e2] at hg
    omega
theorem eats_root (h : MInv n W rm rS part os rts s) (hx : s.X[w]? = some x) (h1 : x.st = 1) {y : Int} (hy : rts[x.at_]? = some y) {tn : Nat} (htn : tn = if x.at_ + 1 = x.to then 0 else 1) : Eats W rts.length part os rts s.ms s.nc x { x with st := tn, at_ := x.at_ + 1 } y := by
  have hwx := h.wk _ _ hx
  have hes : es x = 1 := by rw [es_of (by omega) (by omega)]; exact h1
  have hat := hwx.a3.2 hes
  obtain ⟨hcl, hpu⟩ := none14 hwx.lo (.inr (.inl h1))
  have ht01 : (tn = 0 ∧ x.at_ + 1 = x.to) ∨ (tn = 1 ∧ x.at_ + 1 < x.to) := by
    by_cases e : x.at_ + 1 = x.to
    · rw [if_pos e] at htn; exact .inl ⟨htn, e⟩
    · rw [if_neg e] at htn; exact .inr ⟨htn, by omega⟩
  have hes' : es { x with st := tn, at_ := x.at_ + 1 } = tn := es_of (by show tn ≠ 2; omega) (by show tn ≠ 3; omega)
  refine ⟨.inl h1, rfl, rfl, by show tn = 0 ∨ tn = 1 ∨ tn = 4; omega, ⟨by show x.at_ + 1 ≤ x.to; omega, hwx.a2, ?_, hwx.x1, fun e => ?_, fun e => ?_, ?_⟩, fun j o f y0 _ _ g1 g2 g3 => .inr ⟨g1, g2, g3⟩, fun i y0 hi g1 g2 => ?_, ?_⟩
  · rw [hes']
    show x.at_ + 1 < x.to ↔ tn = 1
    omega
  · have := (hwx.x2 e).1
    omega
  · omega
  · unfold WLoc
    rcases ht01 with ⟨rfl, _⟩ | ⟨rfl, _⟩ <;> exact ⟨hcl, hpu⟩
  · by_cases e : i = x.at_
    · subst e; rw [hy] at hi; injection hi with hi; exact .inl hi.symm
    · exact .inr ⟨by show x.at_ + 1 ≤ i; omega, g2⟩
  · have e1 : phi x = 3 * (x.to - x.at_) + (x.x.t - x.x.f) + 9 := by unfold phi; rw [base1 h1]
    have e2 : phi { x with st := tn, at_ := x.at_ + 1 } = 3 * (x.to - (x.at_ + 1)) + (x.x.t - x.x.f) + vt tn := by unfold phi; rw [base_tn (x := { x with st := tn, at_ := x.at_ + 1 }) (by show tn = 0 ∨ tn = 1 ∨ tn = 4; omega)]
    have e3 : vt tn ≤ 10 := by unfold vt; split <;> omega
    omega
theorem eats_scan (h : MInv n W rm rS part os rts s) (hone : OneO os) (hx : s.X[w]? = some x) (h4 : x.st = 4) (hlt : x.x.f < x.x.t) {j : Nat} {o : RO} {y : Int} (hj : os[j]? = some o) (ha : x.x.a = o.i) (hy : o.ws[x.x.f]? = some y) :
    Eats W rts.length part os rts s.ms s.nc x { x with x := ⟨x.x.a, x.x.f + 1, x.x.t⟩ } y := by
  have hwx := h.wk _ _ hx
  have hes : es x = 4 := by rw [es_of (by omega) (by omega)]; exact h4
  have hti := (hwx.x2 hlt).2
  have hok := hwx.x1
  have hok' : (⟨x.x.a, x.x.f + 1, x.x.t⟩ : TK).Ok := ⟨hok.a1, by show x.x.f + 1 ≤ x.x.t; omega, hok.t1⟩
  refine ⟨.inr h4, rfl, rfl, .inr (.inr h4), ⟨hwx.a1, hwx.a2, hwx.a3, hok', fun e => ⟨hes, hok', hti.ob⟩, hwx.nr, hwx.lo⟩, fun j2 o2 f y0 hj2 hy0 g1 g2 g3 => ?_, fun i y0 hi g1 g2 => .inr ⟨g1, g2⟩, ?_⟩
  · by_cases e : f = x.x.f
    · have := hone _ _ _ _ hj hj2 (by rw [← ha, g1])
      subst this
      rw [e, hy] at hy0; injection hy0 with hy0; exact .inl hy0.symm
    · exact .inr ⟨g1, by show x.x.f + 1 ≤ f; omega, g3⟩
  · have e1 : phi x = 3 * (x.to - x.at_) + (x.x.t - x.x.f) + base x := rfl
    have e2 : phi { x with x := ⟨x.x.a, x.x.f + 1, x.x.t⟩ } = 3 * (x.to - x.at_) + (x.x.t - (x.x.f + 1)) + base x := rfl
    omega
end reach
open Go.Sep
def Over (s : MS) : Prop := ∀ (j : Nat) (x : WK), s.X[j]? = some x → 9 ≤ x.st
def dst (W k t : Nat) : Nat := if t ≤ k then k - t else k + W - t
def nxt (W t : Nat) : Nat := if t + 1 = W then 0 else t + 1
theorem dst_nxt {W k t : Nat} (hk : k < W) (ht : t < W) (h : k ≠ t) : dst W k (nxt W t) + 1 = dst W k t := by
  unfold dst nxt
  by_cases e : t + 1 = W
  · rw [if_pos e, if_pos (Nat.zero_le _)]
    by_cases e2 : t ≤ k
    · omega
    · rw [if_neg e2]; omega
  · rw [if_neg e]
    by_cases e2 : t ≤ k
    · rw [if_pos e2, if_pos (by omega)]; omega
    · rw [if_neg e2, if_neg (by omega)]; omega
theorem dst_self {W t : Nat} (ht : t < W) : dst W t (nxt W t) < W := by
  unfold dst nxt
  by_cases e : t + 1 = W
  · rw [if_pos e, if_pos (Nat.zero_le _)]; omega
  · rw [if_neg e, if_neg (by omega)]; omega
theorem dst_lt {W k t : Nat} (hk : k < W) (ht : t < W) : dst W k t < W := by unfold dst; split <;> omega
theorem dst_zero {W t : Nat} : dst W t t = 0 := by unfold dst; rw [if_pos (Nat.le_refl _)]; omega
theorem nxt_lt {W t : Nat} (ht : t < W) : nxt W t < W := by unfold nxt; split <;> omega
def sure (x : WK) : Prop := x.st = 0 ∨ x.st = 1 ∨ x.st = 2 ∨ x.st = 4 ∨ x.st = 5 ∨ (x.st = 3 ∧ 1 ≤ clN x.cl) ∨ (x.st = 7 ∧ clN x.cl = 4)
def hotB (D : List DQ) (x : WK) : Bool := match D[x.victim]? with
  | some q => decide (((q.T % 4096 : Nat) : Int) < x.low)
  | none => false
theorem hotB_of {D : List DQ} {x : WK} (h : hot D x) : hotB D x = true := by
  obtain ⟨q, h1, h2⟩ := h
  unfold hotB
  rw [h1]
  exact decide_eq_true h2
def vv (D : List DQ) (x : WK) : Nat := match x.st with
  | 6 => 10 + (4 - clN x.cl)
  | 7 => 6 - clN x.cl
  | 8 => 1
  | 11 => if hotB D x then 21 else 0
  | 12 => 20
  | _ => 0
theorem vv6 {D : List DQ} {x : WK} (h : x.st = 6) : vv D x = 10 + (4 - clN x.cl) := by unfold vv; rw [h]; rfl
theorem vv7 {D : List DQ} {x : WK} (h : x.st = 7) : vv D x = 6 - clN x.cl := by unfold vv; rw [h]; rfl
theorem vv8 {D : List DQ} {x : WK} (h : x.st = 8) : vv D x = 1 := by unfold vv; rw [h]; rfl
theorem vv11 {D : List DQ} {x : WK} (h : x.st = 11) : vv D x = if hotB D x then 21 else 0 := by unfold vv; rw [h]; rfl
theorem vv12 {D : List DQ} {x : WK} (h : x.st = 12) : vv D x = 20 := by unfold vv; rw [h]; rfl
theorem vv_le {D : List DQ} {x : WK} : vv D x ≤ 21 := by
  unfold vv
  split <;> first | omega | (split <;> omega)
theorem vv_rest {D : List DQ} {x : WK} (h : x.st = 9 ∨ x.st = 10) : vv D x = 0 := by unfold vv; rcases h with h | h <;> (rw [h]; rfl)
def VV (s : MS) : Nat := (s.X.map (vv s.D)).sum
theorem VV_le {s : MS} : VV s ≤ 21 * s.X.length := by
  unfold VV
  generalize s.X = l
  induction l with
  | nil => exact Nat.zero_le _
  | cons x l ih =>
    have := vv_le (D := s.D) (x := x)
    simp only [List.map_cons, List.sum_cons, List.length_cons]
    omega
inductive Live (W : Nat) (s : MS) (t N : Nat) : Prop
  | sure {k : Nat} {x : WK} (hx : s.X[k]? = some x) (h : sure x) (hN : dst W k t ≤ N)
  | free {j : Nat} {y : WK} (hj : s.X[j]? = some y) (h3 : y.st = 3) (hL : s.sL = none) (hN : 48 * dst W j t + 50 ≤ N)
  | held {j k : Nat} {y x : WK} (hj : s.X[j]? = some y) (h3 : y.st = 3) (hL : s.sL = some k) (hx : s.X[k]? = some x) (h7 : x.st = 7) (c1 : 1 ≤ clN x.cl) (c3 : clN x.cl ≤ 3) (hN : 48 * dst W j (nxt W k) + 8 * (4 - clN x.cl) + dst W k t + 51 ≤ N)
  | take1 {k : Nat} {x : WK} (hP : s.sP ≠ []) (hL : s.sL = some k) (hx : s.X[k]? = some x) (h7 : x.st = 7) (c1 : 1 ≤ clN x.cl) (c3 : clN x.cl ≤ 3) (hN : 8 * (4 - clN x.cl) + dst W k t ≤ N)
  | take0 {k : Nat} {x : WK} (hP : s.sP ≠ []) (hL : s.sL = none) (hx : s.X[k]? = some x) (h7 : x.st = 7) (c0 : clN x.cl = 0) (hN : 40 + dst W k t ≤ N)
  | steal {k : Nat} {x : WK} (hP : s.sP ≠ []) (hx : s.X[k]? = some x) (h6 : x.st = 6) (hN : 100 + 8 * (4 - clN x.cl) + dst W k t ≤ N)
  | quiet {k : Nat} {x : WK} (hA : ∀ (j : Nat) (y : WK), s.X[j]? = some y → 6 ≤ y.st ∧ ¬ Mk.sure y) (hP : s.sP = []) (hx : s.X[k]? = some x) (hk : x.st = 6 ∨ x.st = 8 ∨ (x.st = 7 ∧ (s.sL = none ∨ s.sL = some k))) (hN : 8 * VV s + dst W k t ≤ N)
section live
variable {n W rm rS part : Nat} {os : List RO} {rts : List Int} {s s' : MS} {t N : Nat}
theorem holder (h : MInv n W rm rS part os rts s) {k : Nat} (hL : s.sL = some k) : ∃ x, s.X[k]? = some x ∧ (x.st = 3 ∨ x.st = 7) ∧ 1 ≤ clN x.cl ∧ clN x.cl ≤ 4 := by
  obtain ⟨y, hy, hon, h1, h4⟩ := h.sh.hold k hL
  unfold scs at hy
  rw [List.getElem?_map] at hy
  obtain ⟨x, hx, rfl⟩ := Option.map_eq_some_iff.1 hy
  refine ⟨x, hx, ?_⟩
  unfold atS at hon h1 h4
  have hlo := (h.wk _ _ hx).lo
  cases hcl : x.cl with
  | none => rw [hcl] at hon; cases hon
  | dq d y => rw [hcl] at hon; cases hon
  | sp y =>
    rw [hcl] at h1 h4
    refine ⟨?_, h1, h4⟩
    unfold WLoc at hlo
    rw [hcl] at hlo
    split at hlo <;> first | (rename_i e; exact .inl e) | (rename_i e; exact .inr e) | (obtain ⟨g1, _⟩ := hlo; cases g1; done) | (obtain ⟨y, g1, _⟩ := hlo; cases g1; done) | (obtain ⟨_, g1 | ⟨y, g1, _⟩⟩ := hlo <;> cases g1; done) | (obtain ⟨_, g1 | ⟨e, y, g1, _⟩⟩ := hlo <;> cases g1; done) | exact hlo.elim
theorem quiet_goer (h : MInv n W rm rS part os rts s) (hno : ¬ Over s) (hA : ∀ (j : Nat) (y : WK), s.X[j]? = some y → 6 ≤ y.st ∧ ¬ sure y) : ∃ (k : Nat) (x : WK), s.X[k]? = some x ∧ (x.st = 6 ∨ x.st = 8 ∨ (x.st = 7 ∧ (s.sL = none ∨ s.sL = some k))) := by
  cases hL : s.sL with
  | some k =>
    obtain ⟨x, hx, h1, _⟩ := holder h hL
    have h6 := (hA _ _ hx).1
    have h7 : x.st = 7 := by omega
    exact ⟨k, x, hx, .inr (.inr ⟨h7, .inr rfl⟩)⟩
  | none =>
    apply Classical.byContradiction
    intro hn
    apply hno
    intro j x hx
    have h6 := (hA _ _ hx).1
    apply Classical.byContradiction
    intro h9
    rcases (by omega : x.st = 6 ∨ x.st = 8 ∨ x.st = 7) with e | e | e
    · exact hn ⟨j, x, hx, .inl e⟩
    · exact hn ⟨j, x, hx, .inr (.inl e)⟩
    · exact hn ⟨j, x, hx, .inr (.inr ⟨e, .inl rfl⟩)⟩
theorem live_held (h : MInv n W rm rS part os rts s) (ht : t < W) (hW : W ≤ 7) (hP : s.sP ≠ []) {k : Nat} (hL : s.sL = some k) : ∃ N, N ≤ 31 ∧ Live W s t N := by
  obtain ⟨x, hx, h1, h2, h3⟩ := holder h hL
  have hkW : k < W := by have := (List.getElem?_eq_some_iff.1 hx).1; have := h.xl; omega
  have hd := dst_lt hkW ht
  by_cases hs : sure x
  · exact ⟨dst W k t, by omega, .sure hx hs (Nat.le_refl _)⟩
  · have h7 : x.st = 7 := h1.resolve_left fun e => hs (.inr (.inr (.inr (.inr (.inr (.inl ⟨e, h2⟩))))))
    have h4 : clN x.cl ≠ 4 := fun e => hs (.inr (.inr (.inr (.inr (.inr (.inr ⟨h7, e⟩))))))
    exact ⟨8 * (4 - clN x.cl) + dst W k t, by omega, .take1 hP hL hx h7 h2 (by omega) (Nat.le_refl _)⟩
theorem live_of (h : MInv n W rm rS part os rts s) (ht : t < W) (hW : W ≤ 7) (hno : ¬ Over s) : ∃ N, N < 2000 ∧ Live W s t N := by
  by_cases h1 : ∃ (k : Nat) (x : WK), s.X[k]? = some x ∧ sure x
  · obtain ⟨k, x, hx, hs⟩ := h1
    have hkW : k < W := by have := (List.getElem?_eq_some_iff.1 hx).1; have := h.xl; omega
    have hd := dst_lt hkW ht
    exact ⟨dst W k t, by omega, .sure hx hs (Nat.le_refl _)⟩
  have hns : ∀ (j : Nat) (y : WK), s.X[j]? = some y → ¬ sure y := fun j y hj hs => h1 ⟨j, y, hj, hs⟩
  by_cases h3 : ∃ (j : Nat) (y : WK), s.X[j]? = some y ∧ y.st = 3
  · obtain ⟨j, y, hj, hy⟩ := h3
    have hjW : j < W := by have := (List.getElem?_eq_some_iff.1 hj).1; have := h.xl; omega
    have hd := dst_lt hjW ht
    cases hL : s.sL with
    | none => exact ⟨48 * dst W j t + 50, by omega, .free hj hy hL (Nat.le_refl _)⟩
    | some k =>
      obtain ⟨x, hx, g1, g2, g3⟩ := holder h hL
      have hkW : k < W := by have := (List.getElem?_eq_some_iff.1 hx).1; have := h.xl; omega
      have hd2 := dst_lt hkW ht
      have hd3 := dst_lt hjW (nxt_lt hkW)
      have hs := hns _ _ hx
      have h7 : x.st = 7 := g1.resolve_left fun e => hs (.inr (.inr (.inr (.inr (.inr (.inl ⟨e, g2⟩))))))
      have h4 : clN x.cl ≠ 4 := fun e => hs (.inr (.inr (.inr (.inr (.inr (.inr ⟨h7, e⟩))))))
      exact ⟨48 * dst W j (nxt W k) + 8 * (4 - clN x.cl) + dst W k t + 51, by omega, .held hj hy hL hx h7 g2 (by omega) (Nat.le_refl _)⟩
  have hA : ∀ (j : Nat) (y : WK), s.X[j]? = some y → 6 ≤ y.st ∧ ¬ sure y := by
    intro j y hj
    refine ⟨?_, hns j y hj⟩
    have g1 := hns j y hj
    have g2 : y.st ≠ 3 := fun e => h3 ⟨j, y, hj, e⟩
    unfold sure at g1
    omega
  by_cases hP : s.sP = []
  · obtain ⟨k, x, hx, hk⟩ := quiet_goer h hno hA
    have hkW : k < W := by have := (List.getElem?_eq_some_iff.1 hx).1; have := h.xl; omega
    have hd := dst_lt hkW ht
    have hv := VV_le (s := s)
    rw [h.xl] at hv
    exact ⟨8 * VV s + dst W k t, by omega, .quiet hA hP hx hk (Nat.le_refl _)⟩
  · cases hL : s.sL with
    | some k =>
      obtain ⟨N, hN, hl⟩ := live_held h ht hW hP hL
      exact ⟨N, by omega, hl⟩
    | none =>
      obtain ⟨k, x, hx, h7⟩ := h.sp hP
      have hkW : k < W := by have := (List.getElem?_eq_some_iff.1 hx).1; have := h.xl; omega
      have hd := dst_lt hkW ht
      have h6 := (hA _ _ hx).1
      by_cases e : x.st = 6
      · exact ⟨100 + 8 * (4 - clN x.cl) + dst W k t, by omega, .steal hP hx e (Nat.le_refl _)⟩
      · have e7 : x.st = 7 := by omega
        refine ⟨40 + dst W k t, by omega, .take0 hP hL hx e7 ?_ (Nat.le_refl _)⟩
        have hlo := (h.wk _ _ hx).lo
        unfold WLoc at hlo
        rw [e7] at hlo
        obtain ⟨_, hcl | ⟨y, hcl, hon, _⟩⟩ := hlo
        · rw [hcl]; rfl
        · have hg := scs_get hx
          have : atS x = y := by unfold atS; rw [hcl]; rfl
          rw [this] at hg
          rw [hcl]
          exact (h.sh.sl _ _ hg hon).2.2.1 (by rw [hL]; exact fun e => by cases e)
theorem QK.not_sure {D : List DQ} {sP : List Int} {L L' : Option Nat} {w : Nat} {x x' : WK} (h : QK D sP L L' w x x') : ¬ sure x := by
  unfold sure
  rcases h with ⟨a1, a2, a3, a4, a5, a6⟩ | ⟨a1, a2, a3⟩ | ⟨a1, a2, a3, a4, a5, a6⟩ | ⟨a1, a2, a3, a4, a5, a6⟩ | ⟨a1, a2, a3, a4, a5, a6⟩ | ⟨a1, a2, a3, a4, a5, a6⟩ | ⟨a1, a2, a3⟩ | ⟨a1, a2, a3, a4, a5⟩ | ⟨a1, a2, a3, a4⟩ <;> omega
theorem QK.lock {D : List DQ} {sP : List Int} {L L' : Option Nat} {w : Nat} {x x' : WK} (h : QK D sP L L' w x x') : L' = L ∨ (L = none ∧ L' = some w ∧ x.st = 7 ∧ x'.st = 7 ∧ clN x.cl = 0 ∧ clN x'.cl = 1) ∨ (L = some w ∧ L' = none ∧ x.st = 7 ∧ x'.st = 8 ∧ clN x.cl = 2 ∧ sP = []) := by
  rcases h with ⟨a1, a2, a3, a4, a5, a6⟩ | ⟨a1, a2, a3⟩ | ⟨a1, a2, a3, a4, a5, a6⟩ | ⟨a1, a2, a3, a4, a5, a6⟩ | ⟨a1, a2, a3, a4, a5, a6⟩ | ⟨a1, a2, a3, a4, a5, a6⟩ | ⟨a1, a2, a3⟩ | ⟨a1, a2, a3, a4, a5⟩ | ⟨a1, a2, a3, a4⟩
  · exact .inl a6
  · exact .inl a2
  · exact .inl a6
  · exact .inr (.inl ⟨a5, a6, a1, a2, a3, a4⟩)
  · exact .inl (by rw [a3, a4])
  · exact .inr (.inr ⟨a4, a5, a1, a2, a3, a6⟩)
  · exact .inl a3
  · exact .inl a3
  · exact .inl a4
theorem QK.seven {D : List DQ} {sP : List Int} {L L' : Option Nat} {w : Nat} {x x' : WK} (h : QK D sP L L' w x x') (h7 : x.st = 7) :
    (x'.st = 7 ∧ clN x.cl = 0 ∧ clN x'.cl = 0 ∧ L ≠ none ∧ L' = L) ∨ (x'.st = 7 ∧ clN x.cl = 0 ∧ clN x'.cl = 1 ∧ L = none ∧ L' = some w) ∨ (x'.st = 7 ∧ L = some w ∧ L' = some w ∧ clN x'.cl = clN x.cl + 1 ∧ clN x'.cl ≤ 3) ∨ (x'.st = 8 ∧ clN x.cl = 2 ∧ L = some w ∧ L' = none ∧ sP = []) := by
  rcases h with ⟨a1, a2, a3, a4, a5, a6⟩ | ⟨a1, a2, a3⟩ | ⟨a1, a2, a3, a4, a5, a6⟩ | ⟨a1, a2, a3, a4, a5, a6⟩ | ⟨a1, a2, a3, a4, a5, a6⟩ | ⟨a1, a2, a3, a4, a5, a6⟩ | ⟨a1, a2, a3⟩ | ⟨a1, a2, a3, a4, a5⟩ | ⟨a1, a2, a3, a4⟩
  · omega
  · omega
  · exact .inl ⟨a2, a3, a4, a5, a6⟩
  · exact .inr (.inl ⟨a2, a3, a4, a5, a6⟩)
  · exact .inr (.inr (.inl ⟨a2, a3, a4, a5, a6⟩))
  · exact .inr (.inr (.inr ⟨a2, a3, a4, a5, a6⟩))
  · omega
  · omega
  · omega
theorem QK.quiet {D : List DQ} {L L' : Option Nat} {w : Nat} {x x' : WK} (h : QK D [] L L' w x x') (h6 : 6 ≤ x.st) (hD : ∀ q, D[x'.victim]? = some q → q.P = []) (hL : L = some w → 1 ≤ clN x.cl) :
    6 ≤ x'.st ∧ ¬ sure x' ∧ (vv D x' < vv D x ∨ (vv D x' = vv D x ∧ L' = L ∧ (x.st = 6 ∨ x.st = 7 ∨ x.st = 8 → x'.st = x.st) ∧ ¬ (x.st = 6 ∨ x.st = 8 ∨ (x.st = 7 ∧ (L = none ∨ L = some w))))) := by
  have hs : ∀ y : WK, 6 ≤ y.st → (y.st = 7 → clN y.cl ≠ 4) → ¬ sure y := by
    intro y hy h7 hy2
    unfold sure at hy2
    rcases hy2 with e | e | e | e | e | ⟨e, _⟩ | ⟨e, e2⟩
    · omega
    · omega
    · omega
    · omega
    · omega
    · omega
    · exact h7 e e2
  rcases h with ⟨a1, a2, a3, a4, a5, a6⟩ | ⟨a1, a2, a3⟩ | ⟨a1, a2, a3, a4, a5, a6⟩ | ⟨a1, a2, a3, a4, a5, a6⟩ | ⟨a1, a2, a3, a4, a5, a6⟩ | ⟨a1, a2, a3, a4, a5, a6⟩ | ⟨a1, a2, a3⟩ | ⟨a1, a2, a3, a4, a5⟩ | ⟨a1, a2, a3, a4⟩
  · omega
  · rcases a3 with ⟨b1, b2, b3⟩ | ⟨b1, b2⟩
    · exact ⟨by omega, hs _ (by omega) (by omega), .inl (by rw [vv6 a1, vv6 b1]; omega)⟩
    · refine ⟨by omega, hs _ (by omega) (fun _ => by rw [b2]; decide), ?_⟩
      rw [vv6 a1, vv7 b1, b2]
      exact .inl (by show 6 - 0 < _; omega)
  · refine ⟨by omega, hs _ (by omega) (by omega), .inr ⟨by rw [vv7 a1, vv7 a2, a3, a4], a6, fun _ => by omega, ?_⟩⟩
    rintro (e | e | ⟨_, e | e⟩)
    · omega
    · omega
    · exact a5 e
    · have := hL e; omega
  · exact ⟨by omega, hs _ (by omega) (by omega), .inl (by rw [vv7 a1, vv7 a2]; omega)⟩
  · exact ⟨by omega, hs _ (by omega) (by omega), .inl (by rw [vv7 a1, vv7 a2]; omega)⟩
  · exact ⟨by omega, hs _ (by omega) (by omega), .inl (by rw [vv7 a1, vv8 a2]; omega)⟩
  · exact ⟨by omega, hs _ (by omega) (by omega), .inl (by rw [vv8 a1, vv_rest (.inl a2)]; omega)⟩
  · refine ⟨by omega, hs _ (by omega) (by omega), ?_⟩
    by_cases e12 : x'.st = 12
    · obtain ⟨e11, hh⟩ := (a4 e12).resolve_right (fun h => h rfl)
      left
      rw [vv12 e12, vv11 e11, if_pos (hotB_of hh)]
      decide
    · have h0 : vv D x' = 0 := by
        by_cases e11 : x'.st = 11
        · rw [vv11 e11]
          have : hotB D x' = false := by
            unfold hotB
            cases hq : D[x'.victim]? with
            | none => rfl
            | some q =>
              have g1 := a5 e11 q hq
              rw [hD q hq] at g1
              exact decide_eq_false (by simp at g1; omega)
          rw [this]
          rfl
        · by_cases e9 : x'.st = 9 ∨ x'.st = 10
          · exact vv_rest e9
          · unfold vv
            split <;> first | omega | rfl
      rw [h0]
      by_cases e : vv D x = 0
      · exact .inr ⟨e.symm, a3, fun h => by omega, by omega⟩
      · exact .inl (by omega)
  · exact ⟨by omega, hs _ (by omega) (by omega), .inl (by rw [vv12 a1, vv6 a2, a3]; show 10 + (4 - 0) < 20; decide)⟩
set_option maxHeartbeats 1000000 in
theorem live_step (h : MInv n W rm rS part os rts s) (h' : MInv n W rm rS part os rts s') {R : Nat} (hT : Tr os R part s s' t) (ht : t < W) (hW : W ≤ 7) (hno : ¬ Over s') (hl : Live W s t N) :
    Phi os R part s' < Phi os R part s ∨ (Phi os R part s' = Phi os R part s ∧ ∃ N', N' < N ∧ Live W s' (nxt W t) N') := by
  rcases hT with hT | ⟨hT, hP, hD, x, x', hx, hX, hK⟩
  · exact .inl hT
  refine .inr ⟨hT, ?_⟩
  have hxl := h.xl
  have hget : ∀ (k : Nat) (y : WK), k ≠ t → s.X[k]? = some y → s'.X[k]? = some y := fun k y hk hy => by rw [hX, List.getElem?_set_ne (fun e => hk e.symm)]; exact hy
  have hgt : s'.X[t]? = some x' := by rw [hX]; exact get_set hx
  have hkW : ∀ (k : Nat) (y : WK), s.X[k]? = some y → k < W := fun k y hy => by have := (List.getElem?_eq_some_iff.1 hy).1; omega
  have hds := dst_self ht
  have hns := hK.not_sure
  have hlk := hK.lock
  cases hl with
  | @sure k y hy hs hN =>
    by_cases e : k = t
    · subst e; rw [hx] at hy; injection hy with hy; subst hy; exact absurd hs hns
    · have := dst_nxt (hkW k y hy) ht e
      exact ⟨dst W k (nxt W t), by omega, .sure (hget k y e hy) hs (Nat.le_refl _)⟩
  | @free j y hj h3 hL hN =>
    by_cases e : j = t
    · subst e; rw [hx] at hj; injection hj with hj; subst hj
      rcases hK with ⟨a1, a2, a3, a4, a5, a6⟩ | ⟨a1, a2, a3⟩ | ⟨a1, a2, a3, a4, a5, a6⟩ | ⟨a1, a2, a3, a4, a5, a6⟩ | ⟨a1, a2, a3, a4, a5, a6⟩ | ⟨a1, a2, a3, a4, a5, a6⟩ | ⟨a1, a2, a3⟩ | ⟨a1, a2, a3, a4, a5⟩ | ⟨a1, a2, a3, a4⟩
      · exact absurd hL a5
      all_goals omega
    · have hd := dst_nxt (hkW j y hj) ht e
      rcases hlk with e2 | ⟨b1, b2, b3, b4, b5, b6⟩ | ⟨b1, _⟩
      · exact ⟨48 * dst W j (nxt W t) + 50, by omega, .free (hget j y e hj) h3 (by rw [e2, hL]) (Nat.le_refl _)⟩
      · exact ⟨48 * dst W j (nxt W t) + 8 * (4 - clN x'.cl) + dst W t (nxt W t) + 51, by omega, .held (hget j y e hj) h3 b2 hgt b4 (by omega) (by omega) (Nat.le_refl _)⟩
      · rw [hL] at b1; cases b1
  | @held j k y z hj h3 hL hz h7 c1 c3 hN =>
    have hkk := hkW k z hz
    by_cases e : k = t
    · subst e; rw [hx] at hz; injection hz with hz; subst hz
      have hjt : j ≠ k := fun e => by subst e; rw [hx] at hj; injection hj with hj; subst hj; omega
      have hd0 : dst W k k = 0 := dst_zero
      rcases hK.seven h7 with ⟨_, b, _⟩ | ⟨_, b, _⟩ | ⟨b1, b2, b3, b4, b5⟩ | ⟨b1, b2, b3, b4, b5⟩
      · omega
      · omega
      · exact ⟨48 * dst W j (nxt W k) + 8 * (4 - clN x'.cl) + dst W k (nxt W k) + 51, by omega, .held (hget j y hjt hj) h3 b3 hgt b1 (by omega) b5 (Nat.le_refl _)⟩
      · exact ⟨48 * dst W j (nxt W k) + 50, by omega, .free (hget j y hjt hj) h3 b4 (Nat.le_refl _)⟩
    · have hd := dst_nxt hkk ht e
      have hL' : s'.sL = some k := by
        rcases hlk with e2 | ⟨b1, _⟩ | ⟨b1, _⟩
        · rw [e2, hL]
        · rw [hL] at b1; cases b1
        · rw [hL] at b1; injection b1 with b1; exact absurd b1 e
      obtain ⟨y', hj', h3'⟩ : ∃ y', s'.X[j]? = some y' ∧ y'.st = 3 := by
        by_cases e2 : j = t
        · subst e2; rw [hx] at hj; injection hj with hj; subst hj
          refine ⟨x', hgt, ?_⟩
          rcases hK with ⟨a1, a2, a3, a4, a5, a6⟩ | ⟨a1, a2, a3⟩ | ⟨a1, a2, a3, a4, a5, a6⟩ | ⟨a1, a2, a3, a4, a5, a6⟩ | ⟨a1, a2, a3, a4, a5, a6⟩ | ⟨a1, a2, a3, a4, a5, a6⟩ | ⟨a1, a2, a3⟩ | ⟨a1, a2, a3, a4, a5⟩ | ⟨a1, a2, a3, a4⟩ <;> omega
        · exact ⟨y, hget j y e2 hj, h3⟩
      exact ⟨48 * dst W j (nxt W k) + 8 * (4 - clN z.cl) + dst W k (nxt W t) + 51, by omega, .held hj' h3' hL' (hget k z e hz) h7 c1 c3 (Nat.le_refl _)⟩
  | @take1 k z hne hL hz h7 c1 c3 hN =>
    have hkk := hkW k z hz
    have hne' : s'.sP ≠ [] := by rw [hP]; exact hne
    by_cases e : k = t
    · subst e; rw [hx] at hz; injection hz with hz; subst hz
      have hd0 : dst W k k = 0 := dst_zero
      rcases hK.seven h7 with ⟨_, b, _⟩ | ⟨_, b, _⟩ | ⟨b1, b2, b3, b4, b5⟩ | ⟨b1, b2, b3, b4, b5⟩
      · omega
      · omega
      · exact ⟨8 * (4 - clN x'.cl) + dst W k (nxt W k), by omega, .take1 hne' b3 hgt b1 (by omega) b5 (Nat.le_refl _)⟩
      · exact absurd b5 hne
    · have hd := dst_nxt hkk ht e
      have hL' : s'.sL = some k := by
        rcases hlk with e2 | ⟨b1, _⟩ | ⟨b1, _⟩
        · rw [e2, hL]
        · rw [hL] at b1; cases b1
        · rw [hL] at b1; injection b1 with b1; exact absurd b1 e
      exact ⟨8 * (4 - clN z.cl) + dst W k (nxt W t), by omega, .take1 hne' hL' (hget k z e hz) h7 c1 c3 (Nat.le_refl _)⟩
  | @take0 k z hne hL hz h7 c0 hN =>
    have hkk := hkW k z hz
    have hne' : s'.sP ≠ [] := by rw [hP]; exact hne
    rcases hlk with e2 | ⟨b1, b2, b3, b4, b5, b6⟩ | ⟨b1, _⟩
    · by_cases e : k = t
      · subst e; rw [hx] at hz; injection hz with hz; subst hz
        rcases hK.seven h7 with ⟨_, _, _, b, _⟩ | ⟨_, _, _, _, b⟩ | ⟨_, b, _⟩ | ⟨_, _, b, _⟩
        · exact absurd hL b
        · rw [b, hL] at e2; cases e2
        · rw [hL] at b; cases b
        · rw [hL] at b; cases b
      · have hd := dst_nxt hkk ht e
        exact ⟨40 + dst W k (nxt W t), by omega, .take0 hne' (by rw [e2, hL]) (hget k z e hz) h7 c0 (Nat.le_refl _)⟩
    · exact ⟨8 * (4 - clN x'.cl) + dst W t (nxt W t), by omega, .take1 hne' b2 hgt b4 (by omega) (by omega) (Nat.le_refl _)⟩
    · rw [hL] at b1; cases b1
  | @steal k z hne hz h6 hN =>
    have hkk := hkW k z hz
    have hne' : s'.sP ≠ [] := by rw [hP]; exact hne
    by_cases e : k = t
    · subst e; rw [hx] at hz; injection hz with hz; subst hz
      have hd0 : dst W k k = 0 := dst_zero
      rcases hK with ⟨a1, a2, a3, a4, a5, a6⟩ | ⟨a1, a2, a3⟩ | ⟨a1, a2, a3, a4, a5, a6⟩ | ⟨a1, a2, a3, a4, a5, a6⟩ | ⟨a1, a2, a3, a4, a5, a6⟩ | ⟨a1, a2, a3, a4, a5, a6⟩ | ⟨a1, a2, a3⟩ | ⟨a1, a2, a3, a4, a5⟩ | ⟨a1, a2, a3, a4⟩
      · omega
      · rcases a3 with ⟨b1, b2, b3⟩ | ⟨b1, b2⟩
        · exact ⟨100 + 8 * (4 - clN x'.cl) + dst W k (nxt W k), by omega, .steal hne' hgt b1 (Nat.le_refl _)⟩
        · cases hL : s'.sL with
          | none => exact ⟨40 + dst W k (nxt W k), by omega, .take0 hne' hL hgt b1 (by rw [b2]; rfl) (Nat.le_refl _)⟩
          | some i =>
            obtain ⟨N', hN', hl'⟩ := live_held h' (nxt_lt ht) hW hne' hL
            exact ⟨N', by omega, hl'⟩
      all_goals omega
    · have hd := dst_nxt hkk ht e
      exact ⟨100 + 8 * (4 - clN z.cl) + dst W k (nxt W t), by omega, .steal hne' (hget k z e hz) h6 (Nat.le_refl _)⟩
  | @quiet k z hA hP0 hz hk hN =>
    have hkk := hkW k z hz
    have hPe : ∀ (d : Nat) (q : DQ), s.D[d]? = some q → q.P = [] := fun d q hq => by
      have hdl := h.dl
      have hd : d < s.X.length := by have := (List.getElem?_eq_some_iff.1 hq).1; omega
      exact h.em _ _ _ (List.getElem?_eq_getElem hd) hq (hA _ _ (List.getElem?_eq_getElem hd)).1
    rw [hP0] at hK
    have hLx : s.sL = some t → 1 ≤ clN x.cl := fun e => by
      obtain ⟨y, hy, _, h1, _⟩ := holder h e
      rw [hx] at hy; injection hy with hy; subst hy; exact h1
    obtain ⟨g1, g2, g3⟩ := hK.quiet (hA _ _ hx).1 (fun q hq => hPe _ q hq) hLx
    have hA' : ∀ (j : Nat) (y : WK), s'.X[j]? = some y → 6 ≤ y.st ∧ ¬ sure y := by
      intro j y hj
      rw [hX] at hj
      rcases set_get hj with ⟨rfl, rfl⟩ | ⟨_, hj⟩
      · exact ⟨g1, g2⟩
      · exact hA j y hj
    have hDv : ∀ y : WK, vv s'.D y = vv s.D y := by
      intro y
      have hh : hotB s'.D y = hotB s.D y := by
        unfold hotB
        cases hq : s'.D[y.victim]? with
        | none =>
          have : s.D[y.victim]? = none := by
            rw [List.getElem?_eq_none_iff] at hq ⊢
            have h1 := h.dl; have h2 := h'.dl; omega
          rw [this]
        | some q' =>
          obtain ⟨q, h1, h2, h3⟩ := hD _ _ hq
          rw [h1]
          show decide (((q'.T % 4096 : Nat) : Int) < y.low) = decide (((q.T % 4096 : Nat) : Int) < y.low)
          rw [h3]
      unfold vv
      rw [hh]
    have hVs : VV s' + vv s.D x = VV s + vv s.D x' := by
      unfold VV
      rw [hX]
      have e : (fun y => vv s'.D y) = vv s.D := funext hDv
      show ((s.X.set t x').map (fun y => vv s'.D y)).sum + _ = _
      rw [e]
      exact sum_set hx
    have hP0' : s'.sP = [] := by rw [hP, hP0]
    rcases g3 with g3 | ⟨g3, g4, g5, g6⟩
    · obtain ⟨k', z', hz', hk'⟩ := quiet_goer h' hno hA'
      have hk'W : k' < W := by have := (List.getElem?_eq_some_iff.1 hz').1; have := h'.xl; omega
      have hd' := dst_lt hk'W (nxt_lt ht)
      exact ⟨8 * VV s' + dst W k' (nxt W t), by omega, .quiet hA' hP0' hz' hk' (Nat.le_refl _)⟩
    · by_cases e : k = t
      · subst e; rw [hx] at hz; injection hz with hz; subst hz
        exact absurd hk g6
      · have hd := dst_nxt hkk ht e
        exact ⟨8 * VV s' + dst W k (nxt W t), by omega, .quiet hA' hP0' (hget k z e hz) (by rw [g4]; exact hk) (Nat.le_refl _)⟩
theorem meas_a {a b N N' M : Nat} (h : a < b) (h1 : N' < 2000) (h2 : b * 2000 + N ≤ M + 1) : a * 2000 + N' ≤ M := by
  have e1 : a * 2000 = 2000 * a := Nat.mul_comm _ _
  have e2 : b * 2000 = 2000 * b := Nat.mul_comm _ _
  rw [e1]; rw [e2] at h2; omega
theorem meas_b {a b N N' M : Nat} (h : a = b) (h1 : N' < N) (h2 : b * 2000 + N ≤ M + 1) : a * 2000 + N' ≤ M := by
  have e1 : a * 2000 = 2000 * a := Nat.mul_comm _ _
  have e2 : b * 2000 = 2000 * b := Nat.mul_comm _ _
  rw [e1]; rw [e2] at h2; omega
theorem meas_c {b N N' a : Nat} (h : a < b ∨ (a = b ∧ N' < N)) (h2 : b * 2000 + N ≤ 0) : False := by omega
def Meas (os : List RO) (R part W : Nat) (s : MS) (t M : Nat) : Prop := ∃ N, N < 2000 ∧ Live W s t N ∧ Phi os R part s * 2000 + N ≤ M
theorem meas_of {R : Nat} (h : MInv n W rm rS part os rts s) (ht : t < W) (hW : W ≤ 7) (hno : ¬ Over s) : Meas os R part W s t (Phi os R part s * 2000 + 1999) := by
  obtain ⟨N, hN, hl⟩ := live_of h ht hW hno
  exact ⟨N, hN, hl, by omega⟩
theorem meas_step {R M : Nat} (h : MInv n W rm rS part os rts s) (h' : MInv n W rm rS part os rts s') (hT : Tr os R part s s' t) (ht : t < W) (hW : W ≤ 7) (hno : ¬ Over s') (hm : Meas os R part W s t (M + 1)) : Meas os R part W s' (nxt W t) M := by
  obtain ⟨N, hN, hl, hb⟩ := hm
  rcases live_step h h' hT ht hW hno hl with h1 | ⟨h1, N', hN', hl'⟩
  · obtain ⟨N', hN', hl'⟩ := live_of h' (nxt_lt ht) hW hno
    exact ⟨N', hN', hl', meas_a h1 hN' hb⟩
  · exact ⟨N', Nat.lt_trans hN' hN, hl', meas_b h1 hN' hb⟩
theorem meas_pos {R : Nat} (h : MInv n W rm rS part os rts s) (h' : MInv n W rm rS part os rts s') (hT : Tr os R part s s' t) (ht : t < W) (hW : W ≤ 7) (hno : ¬ Over s') (hm : Meas os R part W s t 0) : False := by
  obtain ⟨N, hN, hl, hb⟩ := hm
  rcases live_step h h' hT ht hW hno hl with h1 | ⟨h1, N', hN', hl'⟩
  · exact meas_c (N' := 0) (.inl h1) hb
  · exact meas_c (.inr ⟨h1, hN'⟩) hb
end live
end Go.Proofs.YtfmkjbmogfhpbaaGreatDoor.Mk
namespace Go.Proofs.YtfmkjbmogfhpbaaGreatDoor
open Go.Sep
section step
variable {n T w nR : Nat} {ws : List Int} {os : List RO} {ms : List Nat} {xs : List WX} {sts wds : List Int} {mv : Int} {C D : Nat} {Q A Z : Nat → Nat} {j : Nat} {x : WX}
theorem SI.q_le (h : SI n T w nR ws os ms xs sts wds mv C D Q A Z) {r : Nat} (hr : r < nR) : Q r ≤ (inR w r (lvs ms os)).length := by
  rcases Nat.lt_or_ge r C with e | e
  · rcases h.d01 r hr with h0 | h1
    · obtain ⟨i, y, hi, hy⟩ := h.ow r hr e h0
      have hw := h.wk i y hi
      have key : ∀ (o : RO) (j : Nat), Cur ws os ms w r (Q r) (A r) y o j → Q r ≤ (inR w r (lvs ms os)).length := fun o j hc => Nat.le_of_lt (List.getElem?_eq_some_iff.1 hc.hq).1
      rcases hy.1 with hf | hf | hf | hf
      · cases hw with
        | ready _ k hr' hk hC h0 hQ hA ho hl hb hd =>
          obtain rfl : k = r := by have := hy.2; omega
          rw [hQ]
          exact Nat.zero_le _
        | claim h2 => rw [hf] at h2; exact absurd h2 (by decide)
        | object h2 => rw [hf] at h2; exact absurd h2 (by decide)
        | fetch h2 => rw [hf] at h2; exact absurd h2 (by decide)
        | lay h2 => rw [hf] at h2; exact absurd h2 (by decide)
        | all h2 => rw [hf] at h2; exact absurd h2 (by decide)
        | part h2 => rw [hf] at h2; exact absurd h2 (by decide)
        | clear h2 => rw [hf] at h2; exact absurd h2 (by decide)
        | rest h2 => rw [hf] at h2; exact absurd h2 (by decide)
      · obtain ⟨k, hr', hk, hC, h0, hQ, hA, ho, hd⟩ := hw.object_inv hf
        obtain rfl : k = r := by have := hy.2; omega
        exact hQ
      · obtain ⟨k, hr', hk, hC, h0, ho, hd, o, j, hc⟩ := hw.fetch_inv hf
        obtain rfl : k = r := by have := hy.2; omega
        exact key o j hc
      · obtain ⟨k, hr', hk, hC, h0, ho, hd, o, j, hc, _⟩ := hw.lay_inv hf
        obtain rfl : k = r := by have := hy.2; omega
        exact key o j hc
    · rw [(h.fu r hr h1).1]
      exact Nat.le_refl _
  · rw [(h.fr r e).1]
    exact Nat.zero_le _
theorem SI.mv_le (hc : Ch ws 0 os T) (hnR : nR = numR w T) (h1w : 1 ≤ w) (h : SI n T w nR ws os ms xs sts wds mv C D Q A Z) : 0 ≤ mv ∧ mv ≤ ((lvs ms os).length : Nat) := by
  have : ∀ m, m ≤ nR → ((List.range m).map Q).sum ≤ (befR w m (lvs ms os)).length := by
    intro m
    induction m with
    | zero => intro _; exact Nat.zero_le _
    | succ m ih =>
      intro hm
      have h1 := ih (by omega)
      have h2 := h.q_le (r := m) (by omega)
      rw [List.range_succ, List.map_append, List.sum_append]
      simp only [List.map_cons, List.map_nil, List.sum_cons, List.sum_nil]
      rw [befR_len]
      omega
  have h2 := this nR (Nat.le_refl _)
  rw [hnR, befR_all ms h1w hc] at h2
  rw [hnR] at h
  rw [h.mq]
  omega
def StepR (n T w nR : Nat) (ws : List Int) (os : List RO) (ms : List Nat) (xs : List WX) (sts : List Int) (tv : Int) (C D : Nat) (j : Nat) (x x' : WX) (sts' wds' : List Int) (mv' tv' : Int) (C' D' : Nat) : Prop :=
  (∃ Q' A' Z', SI n T w nR ws os ms (xs.set j x') sts' wds' mv' C' D' Q' A' Z') ∧ (tv' = tv ∨ tv' = tv + 1) ∧ C' + D' + PhiI T w nR ws os ms (xs.set j x') C' D' ≤ C + D + PhiI T w nR ws os ms xs C D ∧ x'.c = x.c ∧
    (PhiI T w nR ws os ms (xs.set j x') C' D' < PhiI T w nR ws os ms xs C D ∨ (Stk nR sts x ∧ x' = x ∧ sts' = sts ∧ C' = C ∧ D' = D))
theorem StepR.lt {x' : WX} {sts' wds' : List Int} {mv' tv tv' : Int} {C' D' : Nat} {Q' A' Z' : Nat → Nat} (h : SI n T w nR ws os ms (xs.set j x') sts' wds' mv' C' D' Q' A' Z') (ht : tv' = tv ∨ tv' = tv + 1) (hx : x'.c = x.c) (hl : PhiI T w nR ws os ms (xs.set j x') C' D' < PhiI T w nR ws os ms xs C D)
    (hCD : C' + D' ≤ C + D + 1) : StepR n T w nR ws os ms xs sts tv C D j x x' sts' wds' mv' tv' C' D' := ⟨⟨_, _, _, h⟩, ht, by omega, hx, .inl hl⟩
theorem StepR.stay (hj : xs[j]? = some x) {wds' : List Int} {mv' tv tv' : Int} {Q' A' Z' : Nat → Nat} (h : SI n T w nR ws os ms xs sts wds' mv' C D Q' A' Z') (ht : tv' = tv ∨ tv' = tv + 1) (hs : Stk nR sts x) : StepR n T w nR ws os ms xs sts tv C D j x x sts wds' mv' tv' C D := by
  have e : xs.set j x = xs := by
    obtain ⟨h1, h2⟩ := List.getElem?_eq_some_iff.1 hj
    rw [← h2]; exact List.set_getElem_self h1
  unfold StepR
  rw [e]
  exact ⟨⟨_, _, _, h⟩, ht, Nat.le_refl _, rfl, .inr ⟨hs, rfl, rfl, rfl, rfl⟩⟩
end step
open Go.Sep
section ops
variable {ps pf p bw bs pm bm bst bf n T w nR pw pz bz nW wc : Nat} {wa : Option Addr} {pv mv tv : Int} {x : WX} {ws : List Int} {st : List Bool} {os : List RO} {ms : List Nat} {rs : List RG} {fs sts : List Int}
abbrev shL (ps pf p bw bs pm bm bst bf n T w nR pw pz bz nW wc : Nat) (wa : Option Addr) (pv mv tv : Int) (ws : List Int) (st : List Bool) (ms : List Nat) (rs : List RG) (fs sts : List Int) : List HP :=
  sdB ps pf p pw pz wa nW wc pv mv tv :: cellsZ pz bz sts :: fwdL pf p bw bs pm bm bst bf n T w nR ws st ms rs fs
set_option maxHeartbeats 16000000 in
theorem Claim_spec (h : HT n T ws st) (hc : Ch ws 0 os T) (hF : RF w nR (lvs ms os) rs fs) (C : Nat) (h1 : 0 ≤ x.who) (h2 : x.who < 64) (hC : sts[0]? = some (C : Int)) (hC2 : C ≤ 1000000000) (hs : sts.length ≤ 65536) (ht : In64 (tv + 1)) :
    Does Tryz.prog 128 [ptr x.c 0] (wkL ps x ++ shL ps pf p bw bs pm bm bst bf n T w nR pw pz bz nW wc wa pv mv tv ws st ms rs fs sts)
    (fun v l => ∃ x' : WX, ((nR ≤ C ∧ x' = { x with region := C, at_ := 0, fn := 151 }) ∨ (C < nR ∧ ∃ wa' wc' oa' oc', x' = { x with region := C, fn := 150, wa := wa', wl := ahL w (lvs ms os) C C, wc := wc', oa := oa', ol := stI w C (lvs ms os), oc := oc' })) ∧
      v = .tuple #[] ∧ l = wkL ps x' ++ shL ps pf p bw bs pm bm bst bf n T w nR pw pz bz nW wc wa pv mv (tv + 1) ws st ms rs fs (sts.set 0 (C + 1))) := by
  have hnR := hF.nb
  refine Does.of tiok Tryz.func128 (by kernel_rfl) rfl Tryz.ntmps128 rfl ?_
  intro W fr
  repeat' (first | refine Wka ?_ | intro _ | apply And.intro)
  refine JO_l (OL_call [0, 2, 2] rfl rfl rfl (wAdd (bz := bz) 0 h1 h2 hC hs (by constructor <;> omega) ht) rfl) rfl rfl ?_
  rintro _ _ ⟨_, ⟨rfl, rfl⟩, rfl⟩
  repeat' (first | refine Wka ?_ | intro _ | apply And.intro)
  refine J_drawk [blk x.c [ptr ps 0, .int .i64 x.who, .func (.func 150) #[] #[], .int .i64 C, .slice x.wa x.wl.length x.wc, .slice x.oa x.ol.length x.oc, .int .i64 x.from_, .int .i64 x.to, .int .i64 x.size, .int .i64 x.refs, .int .i64 x.at_, .int .i64 x.word, .int .i64 x.end_] 171, sdB ps pf p pw pz wa nW wc pv mv (tv + 1), blk pf (fwdV p pm w bst bf nR) 219] (fun H hl => hl.pick (is := [0, 0, 3]) rfl) [0, 0, 0, 5, 0, 0, 0, 5, 0, 0, 5, 0, 0, 5, 2, 0] (List.range 16) (by kernel_rfl) (by kernel_rfl) ?_
  repeat' (first | refine Wkd ?_ | intro _ | apply And.intro)
  refine JX_lk rfl rfl (OL_call [] rfl rfl rfl (RegLen_spec (w := w) (bst := bst) (bf := bf) (nR := nR)) rfl) rfl rfl ?_ ?_
  · rintro _ _ ⟨_, ⟨rfl, rfl⟩, rfl⟩ H hl
    exact hl.pick (is := [0, 0, 3]) rfl
  rintro _ _ ⟨_, ⟨rfl, rfl⟩, rfl⟩ _
  repeat' (first | refine Wkd ?_ | intro _ | apply And.intro)
  by_cases hCR : C < nR
  · repeat' (first | refine Wka ?_ | intro _ | apply And.intro)
    obtain ⟨r, hr⟩ : ∃ r, rs[C]? = some r := ⟨rs[C]'(by rw [hF.rl]; exact hCR), List.getElem?_eq_getElem _⟩
    have hrc := hF.rc C r hr
    have hcl := hF.clen hr
    refine J_plan [blk x.c [ptr ps 0, .int .i64 x.who, .func (.func 150) #[] #[], .int .i64 C, .slice x.wa x.wl.length x.wc, .slice x.oa x.ol.length x.oc, .int .i64 x.from_, .int .i64 x.to, .int .i64 x.size, .int .i64 x.refs, .int .i64 x.at_, .int .i64 x.word, .int .i64 x.end_] 171, sdB ps pf p pw pz wa nW wc pv mv (tv + 1), blk pf (fwdV p pm w bst bf nR) 219] (fun H hl => hl.pick (is := [0, 0, 3]) rfl) [0, 0, 0, 0, 0, 5, 0, 0, 0, 5, 2, 0, 0, 0, 5, 0, 0, 5, 0, 0, 5, 0, 0, 0, 5, 2, 0, 0, 6, 0, 0, 6] (.q 0 (.q 1 (.q 2 (.q 3 (.q 4 (.q 5 (.q 6 (.q 7 (.q 8 (.q 9 (.q 11 (.q 12 (.q 13 (.q 14 (.q 15 (.q 16 (.q 17 (.q 18 (.q 19 (.q 20 (.q 21 (.q 22 (.q 23 (.q 24 (.l1 10 (.l1 25 (.q 26 (.q 27 (.l1 28 (.q 29 (.q 30 (.l1 31 .fin)))))))))))))))))))))))))))))))) (by kernel_rfl) (by kernel_rfl) ?_
    repeat' (first | refine Wkf ?_ | intro _ | apply And.intro)
    refine JF_l1 (JFO_l rfl (OL_call [1, 4, 4, 4, 4, 4, 4, 4, 4, 4] rfl rfl rfl (Ahead_spec h hc hF C hCR) rfl) rfl rfl (.inr ?_) ?_)
    · rintro _ _ ⟨_, ⟨_, _, rfl, rfl⟩, rfl⟩ H hl
      exact hl.pick (is := [11, 1, 1]) rfl
    rintro _ _ ⟨_, ⟨a1, cap1, rfl, rfl⟩, rfl⟩ _
    refine JF_l1 (JFO_l rfl (OL_call [8, 8] rfl rfl rfl (RegStays_spec (w := w) (bf := bf) (bst := bst) (nR := nR) C hr hF.rl hF.nb hcl) rfl) rfl rfl (.inr ?_) ?_)
    · rintro _ _ ⟨_, ⟨_, _, _, rfl, rfl⟩, rfl⟩ H hl
      exact hl.pick (is := [12, 4, 4]) rfl
    rintro _ _ ⟨_, ⟨a2, cap2, hn2, rfl, rfl⟩, rfl⟩ _
    repeat' (first | refine Wkf ?_ | intro _ | apply And.intro)
    refine JF_l1 (JFO_l0 rfl (OL_store rfl rfl rfl rfl rfl rfl (i := 12) rfl (by rfl)) rfl (.inl rfl) ?_)
    rintro _ _ rfl _
    repeat' (first | refine Wkf ?_ | intro _ | apply And.intro)
    refine JF_l1 (JFO_l0 rfl (OL_store rfl rfl rfl rfl rfl rfl (i := 0) rfl (by rfl)) rfl (.inl rfl) ?_)
    rintro _ _ rfl _
    repeat' (first | refine Wkf ?_ | intro _ | apply And.intro)
    refine At_end' rfl rfl .nil rfl (fun H hl => ?_) ⟨{ x with region := C, fn := 150, wa := a1, wl := ahL w (lvs ms os) C C, wc := cap1, oa := a2, ol := stI w C (lvs ms os), oc := cap2 }, .inr ⟨hCR, a1, cap1, a2, cap2, rfl⟩, rfl, rfl⟩
    rw [hrc] at hl
    exact (rowz_row (hl.pick (l := _) (is := [1, 0, 0, 0, 0, 0, 0, 0, 0, 0, 0, 0, 0, 0]) rfl)).pick (is := [1, 3, 0, 2, 9, 2, 2, 2, 2, 2, 2, 0, 0, 0]) rfl
  · repeat' (first | refine Wka ?_ | intro _ | apply And.intro)
    exact At_end rfl rfl .nil rfl (is := [0, 2, 2, 0, 0, 0, 0, 0, 0, 0, 0, 0, 0, 0]) rfl ⟨_, .inl ⟨by omega, rfl⟩, rfl, rfl⟩
end ops
open Go.Sep
section raw
variable {ps pf p bw bs pm bm bst bf n T w nR pw pz bz nW wc : Nat} {wa : Option Addr} {pv mv tv : Int} {ws : List Int} {st : List Bool} {os : List RO} {ms : List Nat} {rs : List RG} {fs sts : List Int}
  {c : Nat} {who : Int} {fn : FuncId} {region : Int} {wv ov : Value} {from_ to size refs at_ word end_ : Int}
set_option maxHeartbeats 8000000 in
theorem Object_end0 (k : Nat) (oa : Option Addr) (oc : Nat) (h1 : 0 ≤ who) (h2 : who < 64) (hr : region = k) (hk : 3 + k < sts.length) (hs : sts.length ≤ 65536) (ht : In64 (tv + 1)) :
    Does Tryz.prog 168 [ptr c 0] [wkR ps c who fn region wv (.slice oa 0 oc) from_ to size refs at_ word end_, sdB ps pf p pw pz wa nW wc pv mv tv, cellsZ pz bz sts]
    (fun v l => v = .tuple #[] ∧ l = [wkR ps c who 128 region wv (.slice oa 0 oc) from_ to size refs at_ word end_, sdB ps pf p pw pz wa nW wc pv mv (tv + 1), cellsZ pz bz (sts.set (3 + k) 1)]) := by
  subst hr
  obtain ⟨t1, t2⟩ := ht
  refine Does.of tiok Tryz.func168 (by kernel_rfl) rfl Tryz.ntmps168 rfl ?_
  intro W fr
  repeat' (first | refine Wka ?_ | intro _ | apply And.intro)
  refine J_draw [0, 0, 0, 1, 0, 0, 1, 0, 0, 0, 1, 0, 0, 0, 1, 0, 2] (List.range 17) (by kernel_rfl) (by kernel_rfl) ?_
  repeat' (first | refine Wkd ?_ | intro _ | apply And.intro)
  rw [show (3 : Int) + (k : Int) = ((3 + k : Nat) : Int) by omega]
  refine JX_l rfl rfl (OL_call [2] rfl rfl rfl (Store_z (p := pz) (bw := bz) (ws := sts) who 1 (3 + k) h1 h2 hk hs) rfl) rfl rfl ?_
  rintro _ _ ⟨_, ⟨rfl, rfl⟩, rfl⟩
  repeat' (first | refine Wkd ?_ | intro _ | apply And.intro)
  repeat' (first | refine Wka ?_ | intro _ | apply And.intro)
  exact At_ret rfl rfl .nil rfl (is := [0, 0, 0]) rfl ⟨rfl, rfl⟩
set_option maxHeartbeats 16000000 in
theorem Object_next0 (h : HT n T ws st) (hc : Ch ws 0 os T) (hM : MI n ms) (hF : RF w nR (lvs ms os) rs fs) (hR : nR = numR w T) {j : Nat} {o : RO} (hj : os[j]? = some o) (hl : lvB ms o = true) {rest : List Int} (oa : Option Addr) (oc : Nat) (hrl : rest.length ≤ 65536) :
    Does Tryz.prog 168 [ptr c 0] (wkR ps c who fn region wv (.slice oa (rest.length + 1) oc) from_ to size refs at_ word end_ :: rowz 3 1 oa (rest.length + 1) oc (.int .i64 (o.i : Int) :: intsV rest) :: sdB ps pf p pw pz wa nW wc pv mv tv :: fwdL pf p bw bs pm bm bst bf n T w nR ws st ms rs fs)
    (fun v l => ∃ (oa' : Option Addr) (oc' : Nat), v = .tuple #[] ∧ l = wkR ps c who 185 region wv (.slice oa' rest.length oc') o.i (goI ms os j : Nat) (1 + (o.ws.length : Int)) o.p 0 word end_ :: rowz 3 1 oa' rest.length oc' (intsV rest) :: sdB ps pf p pw pz wa nW wc pv mv tv :: fwdL pf p bw bs pm bm bst bf n T w nR ws st ms rs fs) := by
  have hol := hc.o_lt hj
  have htn := h.tn
  have hnb := h.nb
  have hgl := goI_le ms hc hj
  refine Does.of tiok Tryz.func168 (by kernel_rfl) rfl Tryz.ntmps168 rfl ?_
  intro W fr
  refine J_rowzf (i := 1) rfl ?_
  rintro ⟨hcl, hnn, hcc⟩
  have hRd : Reads (rowz 3 1 oa (rest.length + 1) oc (.int .i64 (o.i : Int) :: intsV rest)) 1 (rest.length + 1) oa oc (.int .i64 (o.i : Int) :: intsV rest) := Reads.rowz hcl hnn
  refine J_fact _ (fun w hs => hRd.some (by omega) hs (by simp)) ?_
  rintro ⟨b, of, rfl⟩
  repeat' (first | refine Wka ?_ | intro _ | apply And.intro)
  refine J_plan [wkR ps c who fn region wv (.slice (some ⟨b, of, none⟩) (rest.length + 1) oc) from_ to size refs at_ word end_, rowz 3 1 (some ⟨b, of, none⟩) (rest.length + 1) oc (.int .i64 (o.i : Int) :: intsV rest)] (fun H hl => hl.pick (is := [0, 0]) rfl) [0, 0, 0, 0, 0, 5, 0, 5, 0, 0, 0, 5, 0, 0, 0, 6, 0, 0, 6] (.q 0 (.q 1 (.q 2 (.q 3 (.q 4 (.q 5 (.q 6 (.q 7 (.q 8 (.q 9 (.q 10 (.q 11 (.q 12 (.q 13 (.q 14 (.l1 15 (.q 16 (.q 17 (.l1 18 .fin))))))))))))))))))) (by kernel_rfl) (by kernel_rfl) ?_
  repeat' (first | refine Wkf ?_ | intro _ | apply And.intro)
  refine JF_val rfl (OV_idx (off := of + 0) rfl rfl rfl rfl (by omega) (by omega) (by simp)) rfl rfl ?_
  refine JF_kept rfl rfl (OK_read (i := 0) (v := .int .i64 o.i) hRd (by simp) rfl rfl (by omega) rfl) rfl rfl ?_
  repeat' (first | refine Wkf ?_ | intro _ | apply And.intro)
  refine JF_val rfl (OV_slice (cap := oc) (len := rest.length + 1) (m := 1) (n := ((rest.length + 1 : Nat) : Int)) (p' := if oc = 1 then some ⟨b, of, none⟩ else some ⟨b, of + 1, none⟩) rfl rfl rfl rfl rfl rfl rfl (by omega) (by omega) (by omega) (by simp [addr_add])) rfl rfl ?_
  rw [show (((rest.length + 1 : Nat) : Int)).toNat - (1 : Int).toNat = rest.length by simp, show oc - (1 : Int).toNat = oc - 1 by simp]
  repeat' (first | refine Wkf ?_ | intro _ | apply And.intro)
  refine JF_l1 (JFO_l0 rfl (OL_store rfl rfl rfl rfl rfl rfl (i := 0) rfl (by rfl)) rfl (.inl rfl) ?_)
  rintro _ _ rfl _
  repeat' (first | refine Wkf ?_ | intro _ | apply And.intro)
  refine JF_l1 (JFO_l0 rfl (OL_store rfl rfl rfl rfl rfl rfl (i := 0) rfl (by rfl)) rfl (.inl rfl) ?_)
  rintro _ _ rfl _
  repeat' (first | refine Wkf ?_ | intro _ | apply And.intro)
  refine At_then_normal ?_
  generalize hoa : (if oc = 1 then some (⟨b, of, none⟩ : Addr) else some ⟨b, of + 1, none⟩) = oa'
  refine J_hp (l' := wkR ps c who fn region wv (.slice oa' rest.length (oc - 1)) o.i to size refs at_ word end_ :: rowz 3 1 oa' rest.length (oc - 1) (intsV rest) :: sdB ps pf p pw pz wa nW wc pv mv tv :: fwdL pf p bw bs pm bm bst bf n T w nR ws st ms rs fs) (fun H hl => ?_) ?_
  · have h1 := rowz_tail (hl.pick (l := _) (is := [1, 0, 0, 0, 0, 0, 0, 0, 0, 0, 0, 0]) rfl)
    rw [hoa] at h1
    exact h1.pick (is := [1, 0, 0, 0, 0, 0, 0, 0, 0, 0, 0, 0]) rfl
  repeat' (first | refine Wka ?_ | intro _ | apply And.intro)
  refine J_draw [0, 0, 0, 0, 1, 0, 0, 1, 0, 0, 0, 1, 2, 0, 0, 0, 0, 0, 2] (List.range 19) (by kernel_rfl) (by kernel_rfl) ?_
  repeat' (first | refine Wkd ?_ | intro _ | apply And.intro)
  refine JX_l rfl rfl (OL_call [3, 3, 3, 3, 3, 3, 3, 3, 3] rfl rfl rfl (To_yes h hc hM hF hR hj hl) rfl) rfl rfl ?_
  rintro _ _ ⟨_, ⟨rfl, rfl⟩, rfl⟩
  repeat' (first | refine Wkd ?_ | intro _ | apply And.intro)
  refine JX_l0 rfl rfl (OL_store rfl rfl rfl rfl rfl rfl (i := 9) rfl (by rfl)) rfl ?_
  rintro _ _ rfl
  repeat' (first | refine Wkd ?_ | intro _ | apply And.intro)
  refine At_then_normal ?_
  refine J_hp (l' := wkR ps c who fn region wv (.slice oa' rest.length (oc - 1)) o.i (goI ms os j : Nat) size refs at_ word end_ :: sdB ps pf p pw pz wa nW wc pv mv tv :: rowz 3 1 oa' rest.length (oc - 1) (intsV rest) :: fwdL pf p bw bs pm bm bst bf n T w nR ws st ms rs fs) (fun H hl => hl.pick (is := [0, 10, 9, 0, 0, 0, 0, 0, 0, 0, 0, 0]) rfl) ?_
  repeat' (first | refine Wka ?_ | intro _ | apply And.intro)
  refine J_plan [wkR ps c who fn region wv (.slice oa' rest.length (oc - 1)) o.i (goI ms os j : Nat) size refs at_ word end_, sdB ps pf p pw pz wa nW wc pv mv tv] (fun H hl => hl.pick (is := [0, 0]) rfl) [0, 0, 0, 5, 0, 0, 5, 0, 0, 0, 5, 2, 0, 0, 0, 2, 6, 0] (.q 0 (.q 1 (.q 2 (.q 3 (.q 4 (.q 5 (.q 6 (.q 7 (.q 8 (.q 9 (.q 10 (.l2 11 (.q 12 (.q 13 (.q 14 (.l1 15 (.l1 16 (.q 17 .fin)))))) 15 (.l1 11 (.q 12 (.q 13 (.q 14 (.l1 16 (.q 17 .fin)))))))))))))))))) (by kernel_rfl) (by kernel_rfl) ?_
  repeat' (first | refine Wkf ?_ | intro _ | apply And.intro)
  refine JF_cut (α := Nat) (.l1 16 (.q 17 .fin)) (fun b2 => [(0, ptr c 0), (2, ptr b2 0), (88, headV o.k o.ws.length o.p), (89, .int .i64 0)]) (fun b2 => blk b2 [.int .i64 0, .int .i64 0, .int .i64 0] 82 :: wkR ps c who fn region wv (.slice oa' rest.length (oc - 1)) o.i (goI ms os j : Nat) size refs at_ word end_ :: sdB ps pf p pw pz wa nW wc pv mv tv :: rowz 3 1 oa' rest.length (oc - 1) (intsV rest) :: fwdL pf p bw bs pm bm bst bf n T w nR ws st ms rs fs) ?_ ?_
  · intro hz
    refine JF_l2 ?_ ?_
    · refine JFO_l rfl (OL_call [4, 4, 4] rfl rfl rfl (HeadO_ok h hc hj) rfl) rfl rfl (.inr ?_) ?_
      · rintro _ _ ⟨_, ⟨rfl, rfl⟩, rfl⟩ H hl
        exact hl.pick (is := [3, 3]) rfl
      rintro _ _ ⟨_, ⟨rfl, rfl⟩, rfl⟩ _
      repeat' (first | refine Wkf ?_ | intro _ | apply And.intro)
      refine JF_l1 (JFO_l rfl (OL_alloc rfl rfl) rfl rfl (.inr ?_) ?_)
      · rintro _ _ ⟨_, rfl, rfl⟩ H hl
        exact hl.pick (is := [4, 4]) rfl
      rintro _ _ ⟨b2, rfl, rfl⟩ _
      exact JF_to Sgt (fun H hl => hl.pick (is := [0, 3, 3, 3, 3, 0, 0, 0, 0, 0, 0, 0, 0]) rfl) (fun H hl => hl.pick (is := [1, 1]) rfl) (hz b2)
    · refine JFO_l rfl (OL_alloc rfl rfl) rfl rfl (.inr ?_) ?_
      · rintro _ _ ⟨_, rfl, rfl⟩ H hl
        exact hl.pick (is := [1, 1]) rfl
      rintro _ _ ⟨b2, rfl, rfl⟩ _
      refine JF_l1 (JFO_l rfl (OL_call [5, 5, 5] rfl rfl rfl (HeadO_ok h hc hj) rfl) rfl rfl (.inr ?_) ?_)
      · rintro _ _ ⟨_, ⟨rfl, rfl⟩, rfl⟩ H hl
        exact hl.pick (is := [4, 4]) rfl
      rintro _ _ ⟨_, ⟨rfl, rfl⟩, rfl⟩ _
      repeat' (first | refine Wkf ?_ | intro _ | apply And.intro)
      exact JF_to Sgt (fun H hl => hl.pick (is := [3, 3, 3, 3, 3, 0, 0, 0, 0, 0, 0, 0, 0]) rfl) (fun H hl => hl.pick (is := [1, 1]) rfl) (hz b2)
  · intro b2
    refine JF_l1 (JFO_l0 rfl (OL_store rfl rfl rfl rfl rfl rfl (i := 0) rfl (by rfl)) rfl (.inl rfl) ?_)
    rintro _ _ rfl _
    repeat' (first | refine Wkf ?_ | intro _ | apply And.intro)
    refine At_then_normal ?_
    repeat' (first | refine Wka ?_ | intro _ | apply And.intro)
    refine J_drawk [blk b2 [.int .i64 o.k, .int .i64 o.ws.length, .int .i64 o.p] 82] (fun H hl => hl.pick (is := [0]) rfl) [0, 0, 0, 0, 5, 0, 0, 5, 0, 0, 2, 0, 0, 2, 0, 0, 2] (List.range 17) (by kernel_rfl) (by kernel_rfl) ?_
    repeat' (first | refine Wke ?_ | intro _ | apply And.intro)
    refine JX_l0k rfl rfl (OL_store rfl rfl rfl rfl rfl rfl (i := 1) rfl (by rfl)) rfl ?_ ?_
    · rintro _ _ rfl H hl
      exact hl.pick (is := [1]) rfl
    rintro _ _ rfl _
    repeat' (first | refine Wke ?_ | intro _ | apply And.intro)
    refine JX_l0k rfl rfl (OL_store rfl rfl rfl rfl rfl rfl (i := 0) rfl (by rfl)) rfl ?_ ?_
    · rintro _ _ rfl H hl
      exact hl.pick (is := [1]) rfl
    rintro _ _ rfl _
    repeat' (first | refine Wke ?_ | intro _ | apply And.intro)
    refine JX_l0k rfl rfl (OL_store rfl rfl rfl rfl rfl rfl (i := 0) rfl (by rfl)) rfl ?_ ?_
    · rintro _ _ rfl H hl
      exact hl.pick (is := [1]) rfl
    rintro _ _ rfl _
    repeat' (first | refine Wke ?_ | intro _ | apply And.intro)
    repeat' (first | refine Wka ?_ | intro _ | apply And.intro)
    exact At_end rfl rfl .nil rfl (is := [0, 2, 1, 1, 1, 1, 1, 1, 1, 1, 1, 1]) rfl ⟨oa', oc - 1, rfl, rfl⟩
end raw
end Go.Proofs.YtfmkjbmogfhpbaaGreatDoor
