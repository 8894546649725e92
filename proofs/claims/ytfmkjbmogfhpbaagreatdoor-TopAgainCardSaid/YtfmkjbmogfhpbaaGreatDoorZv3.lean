/-
  Our own: what the claims of Zv share, 3 of 6: Nf Sra Hk Jv Srb Clt Sce Scf Sca Ju Src Dz Rz Oz Sy Sz Sx Dy Dx Ma Mt Mb Mc Md Me Mf Mg Mh Mza Srd Swa.
-/
import Derived.Test.YtfmkjbmogfhpbaaGreatDoorZv2
import Derived.RangeFuncStops
import Derived.RangeFuncLeaves
import Derived.LoopNIn
import Derived.Laws.StructEq
import Derived.Tactics
import Derived.Laws.Slices
import Derived.Deep.Quiet
import Derived.IntWalk
import Derived.Shelf.Abstract
import Derived.Laws.Entries
import Derived.Laws.Rows
import Derived.Below
import Derived.TacticsIn
import Derived.OrdersIn
import Derived.KernelRfl
import Derived.Test.YtfmkjbmogfhpbaaGreatDoorProg
import Derived.ChangeArms
import Derived.WalkKit
import Derived.ProofKit
import Derived.OpenShut
import Derived.ChangeOld
import Derived.SizedLaws
import Derived.Carry
import Derived.Lib.SmallJoins
import Derived.Laws.Shifts
import Derived.Laws.Bits64b
set_option linter.unusedVariables false
set_option linter.unusedSimpArgs false
namespace Go.Proofs.YtfmkjbmogfhpbaaGreatDoor
open Go.Sep
def goI (ms : List Nat) (os : List RO) (j : Nat) : Nat := szL (lvs ms (os.take j))
def LiveAt (ms : List Nat) (os : List RO) (x : Int) : Prop := ∃ (j : Nat) (o : RO), os[j]? = some o ∧ lvB ms o = true ∧ (o.i : Int) = x
theorem bef_all {w k : Nat} {L : List RO} (h : ∀ o ∈ L, o.i / w ≤ k) : szL L = szL (befR w k L) + szL (inR w k L) := by
  have h1 := befR_next (w := w) (k := k) (L := L)
  have h2 : befR w (k + 1) L = L := by
    unfold befR
    rw [List.filter_eq_self]
    intro o ho
    exact decide_eq_true (Nat.lt_succ_of_le (h o ho))
  rw [h2] at h1
  omega
theorem inR_split {w T j : Nat} {ws : List Int} {os : List RO} {o : RO} {ms : List Nat} (h : Ch ws 0 os T) (hj : os[j]? = some o) (hl : lvB ms o = true) :
    ∃ B, inR w (o.i / w) (lvs ms os) = inR w (o.i / w) (lvs ms (os.take j)) ++ o :: B ∧ befR w (o.i / w) (lvs ms os) = befR w (o.i / w) (lvs ms (os.take j)) ∧
      goI ms os j = szL (befR w (o.i / w) (lvs ms os)) + szL (inR w (o.i / w) (lvs ms (os.take j))) := by
  obtain ⟨h1, h2⟩ := h.at hj
  have e := split_at hj
  have hlt : ∀ x ∈ lvs ms (os.take j), x.i < o.i := by
    intro x hx
    obtain ⟨k, hk⟩ := List.getElem?_of_mem (List.mem_filter.1 hx).1
    have := h1.o_lt hk
    omega
  have hge : ∀ x ∈ lvs ms (os.drop (j + 1)), o.i ≤ x.i := by
    intro x hx
    have := Ch.ge h2.2.2.2.2 x (List.mem_filter.1 hx).1
    omega
  have eL : lvs ms os = lvs ms (os.take j) ++ o :: lvs ms (os.drop (j + 1)) := by
    conv => lhs; rw [e]
    unfold lvs
    rw [List.filter_append, List.filter_cons, if_pos hl]
  have eB : befR w (o.i / w) (lvs ms os) = befR w (o.i / w) (lvs ms (os.take j)) := by
    rw [eL]
    unfold befR
    rw [List.filter_append]
    have : (o :: lvs ms (os.drop (j + 1))).filter (fun x => decide (x.i / w < o.i / w)) = [] := by
      rw [List.filter_eq_nil_iff]
      intro x hx
      rcases List.mem_cons.1 hx with rfl | hx
      · simp
      · have := Nat.div_le_div_right (c := w) (hge x hx)
        simp
        omega
    rw [this, List.append_nil]
  refine ⟨inR w (o.i / w) (lvs ms (os.drop (j + 1))), ?_, eB, ?_⟩
  · conv => lhs; rw [eL]
    unfold inR
    rw [List.filter_append, List.filter_cons, if_pos (by simp)]
  · rw [eB]
    exact bef_all fun x hx => Nat.div_le_div_right (Nat.le_of_lt (hlt x hx))
theorem goI_le {T j : Nat} {ws : List Int} {os : List RO} {o : RO} (ms : List Nat) (h : Ch ws 0 os T) (hj : os[j]? = some o) : goI ms os j ≤ o.i := by
  have h1 := (h.at hj).1.sz
  have h2 : szL (lvs ms (os.take j)) ≤ szL (os.take j) := szL_filter
  unfold goI
  omega
theorem Ch.notLive {n T : Nat} {ws : List Int} {st : List Bool} {os : List RO} {ms : List Nat} {x : Int} (h : HT n T ws st) (hc : Ch ws 0 os T) (hno : ¬ LiveAt ms os x) : ¬ (0 ≤ x ∧ x < T ∧ st[x.toNat]? = some true) ∨ ∃ (j : Nat) (o : RO), os[j]? = some o ∧ (o.i : Int) = x ∧ lvB ms o = false := by
  by_cases hs : 0 ≤ x ∧ x < T ∧ st[x.toNat]? = some true
  · right
    by_cases hex : ∃ o ∈ os, (o.i : Int) = x
    · obtain ⟨o, ho, hx⟩ := hex
      obtain ⟨j, hj⟩ := List.getElem?_of_mem ho
      refine ⟨j, o, hj, hx, ?_⟩
      cases hl : lvB ms o with
      | false => rfl
      | true => exact absurd ⟨j, o, hj, hl, hx⟩ hno
    · exact absurd ⟨hs.1, hs.2.2⟩ (findR_none h hc fun o ho hx => hex ⟨o, ho, hx⟩)
  · exact .inl hs
theorem HeadO_ok {p bw bs n T j : Nat} {ws : List Int} {st : List Bool} {os : List RO} {o : RO} (h : HT n T ws st) (hc : Ch ws 0 os T) (hj : os[j]? = some o) : Does Tryz.prog 99 [ptr p 0, .int .i64 o.i] (heapL p bw bs n ws T st)
    (fun v l => v = .tuple #[headV o.k o.ws.length o.p, .int .i64 0] ∧ l = heapL p bw bs n ws T st) := by
  have hat := (hc.at hj).2
  have hol := hc.o_lt hj
  have hs := Ch.start h hc (h.zero.imp (fun e => e.symm) id) o (List.mem_of_getElem? hj)
  have hw := hat.2.2.1
  obtain ⟨u0, u1, u2, u3, u4⟩ := packI_un hat.2.1
  refine (heapHead_ok (p := p) (bw := bw) (bs := bs) o.i _ (h.w64 _ (List.mem_of_getElem? hw)) h.sl h.wl (by have := h.tn; omega) (by omega) hs hw).mono ?_
  rintro v l ⟨rfl, rfl⟩
  refine ⟨?_, rfl⟩
  rw [u1, if_pos rfl]
  unfold unV
  rw [u1, if_pos rfl, u2, u3, u4]
abbrev fwdV (p pm w bst bf nR : Nat) : List Value := [.int .i64 w, sl bst nR, sl bf (nR + 1), ptr p 0, ptr pm 0]
section ops
variable {pf p bw bs pm bm bst bf n T w nR : Nat} {ws : List Int} {st : List Bool} {os : List RO} {ms : List Nat} {rs : List RG} {fs : List Int}
abbrev fwdL (pf p bw bs pm bm bst bf n T w nR : Nat) (ws : List Int) (st : List Bool) (ms : List Nat) (rs : List RG) (fs : List Int) : List HP :=
  blk pf (fwdV p pm w bst bf nR) 219 :: (heapL p bw bs n ws T st ++ marksL pm bm n ms ++ regL bst bf rs fs)
theorem FwdNew_spec (words : Int) (h64 : In64 words) (h : HT n T ws st) (hc : Ch ws 0 os T) (hM : MI n ms) : Does Tryz.prog 126 [ptr p 0, ptr pm 0, .int .i64 words] (heapL p bw bs n ws T st ++ marksL pm bm n ms)
    (fun v l => ∃ pf w nR bst bf rs fs, w = widthR words ∧ RF w nR (lvs ms os) rs fs ∧ nR = numR w T ∧ v = ptr pf 0 ∧ l = fwdL pf p bw bs pm bm bst bf n T w nR ws st ms rs fs) := by
  refine Does.of tiok Tryz.func126 (by kernel_rfl) rfl Tryz.ntmps126 rfl ?_
  intro W fr
  repeat' (first | refine Wka ?_ | intro _ | apply And.intro)
  refine JO_l (OL_call [0, 0, 0, 0, 0] rfl rfl rfl (RegOf_spec words h64 h hc hM) rfl) rfl rfl ?_; rintro _ _ ⟨_, ⟨w, bst, bf, rs, hw, hRO, rfl, rfl⟩, rfl⟩
  repeat' (first | refine Wka ?_ | intro _ | apply And.intro)
  rename_i pf
  exact At_ret rfl rfl (.tmp rfl .nil) rfl (is := [0, 0, 0, 0, 0, 0, 0, 0, 0]) rfl ⟨pf, w, _, bst, bf, rs, _, hw, RF.of h hc hw hRO, rfl, rfl, rfl⟩
theorem FwdTop_spec (hF : RF w nR (lvs ms os) rs fs) : Does Tryz.prog 79 [ptr pf 0] (fwdL pf p bw bs pm bm bst bf n T w nR ws st ms rs fs) (fun v l => v = .int .i64 (szL (lvs ms os) : Nat) ∧ l = fwdL pf p bw bs pm bm bst bf n T w nR ws st ms rs fs) := by
  refine Does.of tiok Tryz.func79 (by kernel_rfl) rfl Tryz.ntmps79 rfl ?_
  intro W fr
  repeat' (first | refine Wka ?_ | intro _ | apply And.intro)
  refine JO_l (OL_call [8] rfl rfl rfl (RegTotal_spec hF.tot hF.fl hF.nb) rfl) rfl rfl ?_; rintro _ _ ⟨_, ⟨rfl, rfl⟩, rfl⟩
  repeat' (first | refine Wka ?_ | intro _ | apply And.intro)
  exact At_ret rfl rfl (.tmp rfl .nil) rfl (is := [1, 1, 1, 1, 1, 1, 1, 1, 0]) rfl ⟨rfl, rfl⟩
theorem stays_yes {j : Nat} {o : RO} (h : HT n T ws st) (hc : Ch ws 0 os T) (hM : MI n ms) (hj : os[j]? = some o) : Does Tryz.prog 129 [ptr pf 0, .int .i64 o.i] (fwdL pf p bw bs pm bm bst bf n T w nR ws st ms rs fs)
    (fun v l => v = .bool (lvB ms o) ∧ l = fwdL pf p bw bs pm bm bst bf n T w nR ws st ms rs fs) := by
  have hol := hc.o_lt hj
  have htn := h.tn
  refine Does.of tiok Tryz.func129 (by kernel_rfl) rfl Tryz.ntmps129 rfl ?_
  intro W fr
  repeat' (first | refine Wka ?_ | intro _ | apply And.intro)
  refine JO_l (OL_call [1, 1, 1] rfl rfl rfl (HeadO_ok h hc hj) rfl) rfl rfl ?_; rintro _ _ ⟨_, ⟨rfl, rfl⟩, rfl⟩
  unfold lvB
  by_cases h15 : o.k = 15
  · rw [decide_eq_false (not_not_intro h15)]
    repeat' (first | refine Wka ?_ | intro _ | apply And.intro)
    exact At_ret rfl rfl (.tmp rfl .nil) rfl (is := [4, 1, 1, 1, 1, 1, 1, 1, 1]) rfl ⟨rfl, rfl⟩
  · rw [decide_eq_true h15]
    repeat' (first | refine Wka ?_ | intro _ | apply And.intro)
    refine JO_l (OL_call [5, 5] rfl rfl rfl (Has_in o.i hM (by omega)) rfl) rfl rfl ?_; rintro _ _ ⟨_, ⟨rfl, rfl⟩, rfl⟩
    repeat' (first | refine Wka ?_ | intro _ | apply And.intro)
    exact At_ret rfl rfl (.tmp rfl .nil) rfl (is := [6, 3, 3, 3, 0, 0, 1, 1, 1]) rfl ⟨rfl, rfl⟩
theorem stays_no {x : Int} (h : HT n T ws st) (hx : ¬ (0 ≤ x ∧ x < T ∧ st[x.toNat]? = some true)) : Does Tryz.prog 129 [ptr pf 0, .int .i64 x] (fwdL pf p bw bs pm bm bst bf n T w nR ws st ms rs fs)
    (fun v l => v = .bool false ∧ l = fwdL pf p bw bs pm bm bst bf n T w nR ws st ms rs fs) := by
  refine Does.of tiok Tryz.func129 (by kernel_rfl) rfl Tryz.ntmps129 rfl ?_
  intro W fr
  repeat' (first | refine Wka ?_ | intro _ | apply And.intro)
  refine JO_l (OL_call [1, 1, 1] rfl rfl rfl (heapHead_no x h.sl (by have := h.tn; omega) hx) rfl) rfl rfl ?_; rintro _ _ ⟨_, ⟨rfl, rfl⟩, rfl⟩
  repeat' (first | refine Wka ?_ | intro _ | apply And.intro)
  exact At_ret rfl rfl (.tmp rfl .nil) rfl (is := [4, 1, 1, 1, 1, 1, 1, 1, 1]) rfl ⟨rfl, rfl⟩
set_option maxHeartbeats 4000000 in
theorem To_no {x : Int} (h : HT n T ws st) (hc : Ch ws 0 os T) (hM : MI n ms) (hx : ¬ LiveAt ms os x) : Does Tryz.prog 112 [ptr pf 0, .int .i64 x] (fwdL pf p bw bs pm bm bst bf n T w nR ws st ms rs fs)
    (fun v l => v = .tuple #[.int .i64 0, .int .i64 3] ∧ l = fwdL pf p bw bs pm bm bst bf n T w nR ws st ms rs fs) := by
  have hs : Does Tryz.prog 129 [ptr pf 0, .int .i64 x] (fwdL pf p bw bs pm bm bst bf n T w nR ws st ms rs fs)
    (fun v l => v = .bool false ∧ l = fwdL pf p bw bs pm bm bst bf n T w nR ws st ms rs fs) := by
    rcases hc.notLive h hx with e | ⟨j, o, hj, rfl, hl⟩
    · exact stays_no h e
    · have := stays_yes (pf := pf) (p := p) (bw := bw) (bs := bs) (pm := pm) (bm := bm) (bst := bst) (bf := bf) (w := w) (nR := nR) (rs := rs) (fs := fs) h hc hM hj
      rwa [hl] at this
  refine Does.of tiok Tryz.func112 (by kernel_rfl) rfl Tryz.ntmps112 rfl ?_
  intro W fr
  repeat' (first | refine Wka ?_ | intro _ | apply And.intro)
  refine JO_l (OL_call [0, 0, 0, 0, 0, 0, 0, 0, 0] rfl rfl rfl (hs) rfl) rfl rfl ?_; rintro _ _ ⟨_, ⟨rfl, rfl⟩, rfl⟩
  repeat' (first | refine Wka ?_ | intro _ | apply And.intro)
  exact At_ret rfl rfl (.tmp rfl (.tmp rfl .nil)) rfl (is := [0, 0, 0, 0, 0, 0, 0, 0, 0]) rfl ⟨rfl, rfl⟩
set_option maxHeartbeats 8000000 in
theorem To_yes {j : Nat} {o : RO} (h : HT n T ws st) (hc : Ch ws 0 os T) (hM : MI n ms) (hF : RF w nR (lvs ms os) rs fs) (hR : nR = numR w T) (hj : os[j]? = some o) (hl : lvB ms o = true) : Does Tryz.prog 112 [ptr pf 0, .int .i64 o.i] (fwdL pf p bw bs pm bm bst bf n T w nR ws st ms rs fs)
    (fun v l => v = .tuple #[.int .i64 (goI ms os j : Nat), .int .i64 0] ∧ l = fwdL pf p bw bs pm bm bst bf n T w nR ws st ms rs fs) := by
  have hol := hc.o_lt hj
  have htn := h.tn
  have hnb := h.nb
  have hgl := goI_le ms hc hj
  obtain ⟨B, hB, hb, hgo⟩ := inR_split (w := w) hc hj hl
  have hkn : o.i / w < nR := by rw [hR]; exact numR_lt hF.w1 (by omega)
  have hfb := hF.fb (o.i / w) (by omega)
  obtain ⟨r, hr⟩ : ∃ r, rs[o.i / w]? = some r := ⟨rs[o.i / w]'(by have := hF.rl; omega), List.getElem?_eq_getElem _⟩
  have hrc := hF.rc _ r hr
  have hrl := hF.clen hr
  unfold stI at hrc
  rw [hB] at hrc
  have hA : ∀ x ∈ inR w (o.i / w) (lvs ms (os.take j)), x.i < o.i ∧ x ∈ os := by
    intro x hx
    have hx := (List.mem_filter.1 (List.mem_filter.1 hx).1).1
    obtain ⟨k, hk⟩ := List.getElem?_of_mem hx
    have := (hc.at hj).1.o_lt hk
    exact ⟨by omega, List.mem_of_mem_take hx⟩
  generalize inR w (o.i / w) (lvs ms (os.take j)) = A at hA hrc hgo
  have hs := stays_yes (pf := pf) (p := p) (bw := bw) (bs := bs) (pm := pm) (bm := bm) (bst := bst) (bf := bf) (w := w) (nR := nR) (rs := rs) (fs := fs) h hc hM hj
  rw [hl] at hs
  have hAt : Does Tryz.prog 130 [regV w bst bf nR, .int .i64 o.i] [] _ := RegAt_spec o.i (by omega) hF.w1 hF.w2
  have hFi : Does Tryz.prog 131 [regV w bst bf nR, .int .i64 (o.i / w : Nat)] [blk bf (intsV fs) 3] _ := RegFirst_spec (o.i / w) hfb hF.fl hF.nb
  have hSi : Does Tryz.prog 132 [regV w bst bf nR, .int .i64 (o.i / w : Nat)] [blk bst (rs.map cellG) 33, GW rs] _ := RegStays_spec (o.i / w) hr hF.rl hF.nb hrl
  generalize o.i / w = k at *
  refine Does.of tiok Tryz.func112 (by kernel_rfl) rfl Tryz.ntmps112 rfl ?_
  intro W fr
  repeat' (first | refine Wka ?_ | intro _ | apply And.intro)
  refine JO_l (OL_call [0, 0, 0, 0, 0, 0, 0, 0, 0] rfl rfl rfl (hs) rfl) rfl rfl ?_; rintro _ _ ⟨_, ⟨rfl, rfl⟩, rfl⟩
  repeat' (first | refine Wka ?_ | intro _ | apply And.intro)
  refine JO_l (OL_call [] rfl rfl rfl (hAt) rfl) rfl rfl ?_; rintro _ _ ⟨_, ⟨rfl, rfl⟩, rfl⟩
  repeat' (first | refine Wka ?_ | intro _ | apply And.intro)
  refine JO_l (OL_call [8] rfl rfl rfl (hFi) rfl) rfl rfl ?_; rintro _ _ ⟨_, ⟨rfl, rfl⟩, rfl⟩
  repeat' (first | refine Wka ?_ | intro _ | apply And.intro)
  refine JO_l (OL_call [7, 7] rfl rfl rfl (hSi) rfl) rfl rfl ?_; rintro _ _ ⟨_, ⟨ra, rcap, hrn, rfl, rfl⟩, rfl⟩
  repeat' (first | refine Wka ?_ | intro _ | apply And.intro)
  have hR1 : Reads (row 3 1 ra r.c.length rcap (intsV r.c)) 1 r.c.length ra rcap (intsV r.c) := Reads.row (by simp) hrn
  have hcl : r.c.length = A.length + 1 + B.length := by rw [hrc]; simp; omega
  have htk : ∀ q, szL (A.take q) ≤ szL A := fun q => by
    conv => rhs; rw [← List.take_append_drop q A]
    rw [szL_app]
    exact Nat.le_add_right _ _
  refine J_fact _ (fun w hs => hR1.some (by omega) hs Mmt) ?_
  rintro ⟨b, of, rfl⟩
  refine J_loop (α := Nat) (fun q => q ≤ A.length)
    (fun q => [(0, ptr pf 0), (1, .int .i64 o.i), (7, .int .i64 (szL (befR w k (lvs ms os)) + szL (A.take q) : Nat)), (33, .slice (some ⟨b, of, none⟩) r.c.length rcap), (34, .int .i64 r.c.length), (35, .int .i64 q)])
    (fun q => row 3 1 (some ⟨b, of, none⟩) r.c.length rcap (intsV r.c) :: fwdL pf p bw bs pm bm bst bf n T w nR ws st ms rs fs) (fun q => A.length - q) 0 (Nat.zero_le _) Sgt (fun H hl => hl.pick (is := [0, 3, 3, 3, 3, 3, 3, 0, 0, 0]) rfl) ?_
  intro q hq
  have hq2 := htk q
  by_cases hqa : q < A.length
  · obtain ⟨x, hx⟩ : ∃ x, A[q]? = some x := ⟨A[q], List.getElem?_eq_getElem _⟩
    obtain ⟨hxi, hxm⟩ := hA x (List.mem_of_getElem? hx)
    obtain ⟨j', hj'⟩ := List.getElem?_of_mem hxm
    have hxl := hc.o_lt hj'
    have hcx : r.c[q]? = some (x.i : Int) := by
      rw [hrc, List.map_append, List.getElem?_append_left (by simpa using hqa), List.getElem?_map, hx]
      rfl
    have hsx : szL (A.take (q + 1)) = szL (A.take q) + (1 + x.ws.length) := by
      rw [take_next hx, szL_app]
      rfl
    have hq3 := htk (q + 1)
    repeat' (first | refine Wka ?_ | intro _ | apply And.intro)
    refine JO_val (OV_idx (off := of + q) rfl rfl rfl rfl (by omega) (by omega) (by simp)) rfl rfl ?_
    refine JO_q (OQ_read (v := .int .i64 x.i) hR1 Mmt rfl rfl (by omega) (by simp [intsV, hcx])) rfl rfl ?_
    repeat' (first | refine Wka ?_ | intro _ | apply And.intro)
    refine JO_l (OL_call [2, 2, 2] rfl rfl rfl (HeadO_ok h hc hj') rfl) rfl rfl ?_; rintro _ _ ⟨_, ⟨rfl, rfl⟩, rfl⟩
    repeat' (first | refine Wka ?_ | intro _ | apply And.intro)
    rw [show ((szL (befR w k (lvs ms os)) + szL (A.take q) : Nat) : Int) + (1 + (x.ws.length : Int)) = ((szL (befR w k (lvs ms os)) + szL (A.take (q + 1)) : Nat) : Int) by rw [hsx]; omega]
    exact At_round (q + 1) (by show A.length - (q + 1) < A.length - q; omega) (by show q + 1 ≤ A.length; omega) Sgt (fun H hl => hl.pick (is := [4, 4, 1, 1, 1, 1, 1, 1, 1, 1]) rfl)
  · obtain rfl : q = A.length := by omega
    have hcx : r.c[A.length]? = some (o.i : Int) := by
      rw [hrc, List.map_append, List.getElem?_append_right (by simp)]
      simp
    rw [List.take_length, ← hgo]
    repeat' (first | refine Wka ?_ | intro _ | apply And.intro)
    refine JO_val (OV_idx (off := of + A.length) rfl rfl rfl rfl (by omega) (by omega) (by simp)) rfl rfl ?_
    refine JO_q (OQ_read (v := .int .i64 o.i) hR1 Mmt rfl rfl (by omega) (by simp [intsV, hcx])) rfl rfl ?_
    repeat' (first | refine Wka ?_ | intro _ | apply And.intro)
    exact At_ret rfl rfl (.tmp rfl (.tmp rfl .nil)) rfl (is := [1, 1, 1, 1, 1, 1, 1, 1, 1]) rfl ⟨rfl, rfl⟩
theorem Word_zero : Does Tryz.prog 80 [ptr pf 0, .int .i64 0] (fwdL pf p bw bs pm bm bst bf n T w nR ws st ms rs fs)
    (fun v l => v = .tuple #[.int .i64 0, .int .i64 0] ∧ l = fwdL pf p bw bs pm bm bst bf n T w nR ws st ms rs fs) := by
  refine Does.of tiok Tryz.func80 (by kernel_rfl) rfl Tryz.ntmps80 rfl ?_
  intro W fr
  repeat' (first | refine Wka ?_ | intro _ | apply And.intro)
  exact At_ret rfl rfl (.tmp rfl (.tmp rfl .nil)) rfl (is := [0, 0, 0, 0, 0, 0, 0, 0, 0]) rfl ⟨rfl, rfl⟩
theorem Word_yes {j : Nat} {o : RO} (h : HT n T ws st) (hc : Ch ws 0 os T) (hM : MI n ms) (hF : RF w nR (lvs ms os) rs fs) (hR : nR = numR w T) (hj : os[j]? = some o) (hl : lvB ms o = true) : Does Tryz.prog 80 [ptr pf 0, .int .i64 ((o.i : Int) + 1)] (fwdL pf p bw bs pm bm bst bf n T w nR ws st ms rs fs)
    (fun v l => v = .tuple #[.int .i64 ((goI ms os j : Int) + 1), .int .i64 0] ∧ l = fwdL pf p bw bs pm bm bst bf n T w nR ws st ms rs fs) := by
  have hol := hc.o_lt hj
  have htn := h.tn
  have hnb := h.nb
  have hgl := goI_le ms hc hj
  have hT := To_yes (pf := pf) (p := p) (bw := bw) (bs := bs) (pm := pm) (bm := bm) (bst := bst) (bf := bf) h hc hM hF hR hj hl
  generalize goI ms os j = gi at *
  refine Does.of tiok Tryz.func80 (by kernel_rfl) rfl Tryz.ntmps80 rfl ?_
  intro W fr
  repeat' (first | refine Wka ?_ | intro _ | apply And.intro)
  rw [show (o.i : Int) + 1 - 1 = o.i by omega]
  refine JO_l (OL_call [0, 0, 0, 0, 0, 0, 0, 0, 0] rfl rfl rfl (hT) rfl) rfl rfl ?_; rintro _ _ ⟨_, ⟨rfl, rfl⟩, rfl⟩
  repeat' (first | refine Wka ?_ | intro _ | apply And.intro)
  exact At_ret rfl rfl (.tmp rfl (.tmp rfl .nil)) rfl (is := [0, 0, 0, 0, 0, 0, 0, 0, 0]) rfl ⟨rfl, rfl⟩
theorem Word_no {x : Int} (h0 : ¬ x = 0) (h64 : In64 x) (h : HT n T ws st) (hc : Ch ws 0 os T) (hM : MI n ms) (hx : ¬ LiveAt ms os (x - 1)) : Does Tryz.prog 80 [ptr pf 0, .int .i64 x] (fwdL pf p bw bs pm bm bst bf n T w nR ws st ms rs fs)
    (fun v l => v = .tuple #[.int .i64 0, .int .i64 5] ∧ l = fwdL pf p bw bs pm bm bst bf n T w nR ws st ms rs fs) := by
  obtain ⟨h641, h642⟩ := h64
  have htn := h.tn
  have hnb := h.nb
  by_cases hm : x = -9223372036854775808
  · subst hm
    have hT := To_no (pf := pf) (p := p) (bw := bw) (bs := bs) (pm := pm) (bm := bm) (bst := bst) (bf := bf) (w := w) (nR := nR) (rs := rs) (fs := fs) (x := 9223372036854775807) h hc hM (fun ⟨j, o, hj, hl, hi⟩ => by
      have := hc.o_lt hj
      omega)
    refine Does.of tiok Tryz.func80 (by kernel_rfl) rfl Tryz.ntmps80 rfl ?_
    intro W fr
    repeat' (first | refine Wka ?_ | intro _ | apply And.intro)
    refine JO_l (OL_call [0, 0, 0, 0, 0, 0, 0, 0, 0] rfl rfl rfl (hT) rfl) rfl rfl ?_; rintro _ _ ⟨_, ⟨rfl, rfl⟩, rfl⟩
    repeat' (first | refine Wka ?_ | intro _ | apply And.intro)
    exact At_ret rfl rfl (.tmp rfl (.tmp rfl .nil)) rfl (is := [0, 0, 0, 0, 0, 0, 0, 0, 0]) rfl ⟨rfl, rfl⟩
  · have hT := To_no (pf := pf) (p := p) (bw := bw) (bs := bs) (pm := pm) (bm := bm) (bst := bst) (bf := bf) (w := w) (nR := nR) (rs := rs) (fs := fs) h hc hM hx
    refine Does.of tiok Tryz.func80 (by kernel_rfl) rfl Tryz.ntmps80 rfl ?_
    intro W fr
    repeat' (first | refine Wka ?_ | intro _ | apply And.intro)
    refine JO_l (OL_call [0, 0, 0, 0, 0, 0, 0, 0, 0] rfl rfl rfl (hT) rfl) rfl rfl ?_; rintro _ _ ⟨_, ⟨rfl, rfl⟩, rfl⟩
    repeat' (first | refine Wka ?_ | intro _ | apply And.intro)
    exact At_ret rfl rfl (.tmp rfl (.tmp rfl .nil)) rfl (is := [0, 0, 0, 0, 0, 0, 0, 0, 0]) rfl ⟨rfl, rfl⟩
end ops
open Go.Sep
theorem goI_succ {ms : List Nat} {os : List RO} {q : Nat} {o : RO} (h : os[q]? = some o) : goI ms os (q + 1) = goI ms os q + if lvB ms o then 1 + o.ws.length else 0 := by
  unfold goI
  rw [lvs_next h, szL_app]
  cases lvB ms o
  · rfl
  · show szL (lvs ms (os.take q)) + szL [o] = _
    simp [szL]
theorem goI_bd {ms : List Nat} {os : List RO} {q : Nat} : goI ms os q ≤ szL os := by
  unfold goI lvs
  refine Nat.le_trans szL_filter ?_
  have h := szL_app (A := os.take q) (B := os.drop q)
  rw [List.take_append_drop] at h
  omega
theorem Ch.apart {ws : List Int} {os : List RO} {T j j' : Nat} {o o' : RO} (h : Ch ws 0 os T) (hj : os[j]? = some o) (hj' : os[j']? = some o') (hlt : j < j') : o.i + 1 + o.ws.length ≤ o'.i := by
  have h1 := (h.at hj).2.2.2.2.2
  have h2 : (os.drop (j + 1))[j' - (j + 1)]? = some o' := by rw [List.getElem?_drop, show j + 1 + (j' - (j + 1)) = j' by omega]; exact hj'
  have hlt2 := (List.getElem?_eq_some_iff.1 h2).1
  have e : os.drop (j + 1) = (os.drop (j + 1)).take (j' - (j + 1)) ++ o' :: (os.drop (j + 1)).drop (j' - (j + 1) + 1) := by
    conv => lhs; rw [← List.take_append_drop (j' - (j + 1)) (os.drop (j + 1))]
    rw [List.drop_eq_getElem_cons hlt2]
    rw [List.getElem?_eq_getElem hlt2] at h2
    injection h2 with h2
    rw [h2]
  rw [e] at h1
  obtain ⟨m, k1, k2⟩ := Ch.app.1 h1
  have := k1.le
  have := k2.1
  omega
theorem Ch.one {ws : List Int} {os : List RO} {T j j' : Nat} {o o' : RO} (h : Ch ws 0 os T) (hj : os[j]? = some o) (hj' : os[j']? = some o') (he : o.i = o'.i) : j = j' := by
  rcases Nat.lt_trichotomy j j' with e | e | e
  · have := h.apart hj hj' e; omega
  · exact e
  · have := h.apart hj' hj e; omega
section ops
variable {a : Option Addr} {cap : Nat} {os : List RO} {ms : List Nat} {sa : Option Addr} {sc : Nat} {Rs : HP}
def RightP (ms : List Nat) (os : List RO) : Prop := ∀ (j : Nat) (o : RO), os[j]? = some o → lvB ms o = true → ∀ (k : Nat) (w : Int), (k : Int) < o.p → o.ws[k]? = some w → w = 0 ∨ LiveAt ms os (w - 1)
def LeadP (os : List RO) : Prop := ∀ (j : Nat) (o : RO), os[j]? = some o → ∀ (k : Nat) (w : Int), (k : Int) < o.p → o.ws[k]? = some w → w = 0 ∨ ∃ (j' : Nat) (o' : RO), os[j']? = some o' ∧ w = (o'.i : Int) + 1
end ops
open Go.Sep
section ops
variable {p bw bs n T : Nat} {ws : List Int} {st : List Bool}
theorem Read_okT (i m : Nat) (w x : Int) (h : HT n T ws st) (hs : st[i]? = some true) (hw : ws[i]? = some w) (hg : wordB w = true) (hf : (m : Int) < unN w) (hle : i + 1 + (unN w).toNat ≤ T) (hx : ws[i + 1 + m]? = some x) : Does Tryz.prog 93 [ptr p 0, .int .i64 i, .int .i64 m] (heapL p bw bs n ws T st)
    (fun v l => v = .tuple #[.int .i64 x, .int .i64 0] ∧ l = heapL p bw bs n ws T st) := by
  have htn := h.tn
  have hnb := h.nb
  have hwl := h.wl
  refine Does.of tiok Tryz.func93 (by kernel_rfl) rfl Tryz.ntmps93 rfl ?_
  intro W fr
  repeat' (first | refine Wka ?_ | intro _ | apply And.intro)
  refine JO_l (OL_call [0, 0, 0] rfl rfl rfl (field_okT i w m h hs hw hg ⟨by omega, hf⟩) rfl) rfl rfl ?_; rintro _ _ ⟨_, ⟨rfl, rfl⟩, rfl⟩
  repeat' (first | refine Wka ?_ | intro _ | apply And.intro)
  refine JO_val (OV_idx (off := i + 1 + m) rfl rfl rfl rfl (by omega) (by omega) (by omega)) rfl rfl ?_
  refine JO_q (OQ_load (v := .int .i64 x) rfl rfl Mmt (by simp [intsV, hx])) rfl rfl ?_
  repeat' (first | refine Wka ?_ | intro _ | apply And.intro)
  exact At_ret rfl rfl (.tmp rfl (.tmp rfl .nil)) rfl (is := [1, 1, 1]) rfl ⟨rfl, rfl⟩
end ops
end Go.Proofs.YtfmkjbmogfhpbaaGreatDoor
namespace Go.Sep
open Go.RowKit
def PScope (Q : Post) : Post := fun e a w => match e with
  | .normal => Q .normal a w
  | .exit id => Q (.exit id) a w
  | .goto _ => False
  | .ret => Q .ret a w
  | .panic c => Q (.panic c) a w
  | .outgrown => Q .outgrown a w
theorem wpIn_scope' {F : Fence} {n : Nat} {P : Program} {Q : Post} {a : Act} {w : World} {c : Code} (h : c.wpIn F n P (PScope Q) a w) : (Code.scope c).wpIn F n P Q a w := by
  intro b k cs hro hb hr
  have h0 : (lone (b.atR a (.code (.scope c) :: k)) cs w).fenced P F := fenced_calm hb hr rfl
  have s1 : step P (lone (b.atR a (.code (.scope c) :: k)) cs w) = .next (lone (b.atR a (.code c :: .inScope c :: k)) cs w) := rfl
  obtain ⟨e, a₁, w₁, hq, harr⟩ := h b (.inScope c :: k) cs hro hb hr
  have hx : ∀ id, exitTo id (.inScope c :: k) = exitTo id k := fun id => by simp [exitTo]
  cases e with
  | normal => exact ⟨.normal, a₁, w₁, hq, .head h0 s1 (StepsIn.trans harr (.one (fenced_calm hb hr rfl) rfl))⟩
  | exit id => exact ⟨.exit id, a₁, w₁, hq, fun k' hk => .head h0 s1 (harr.1 k' (by rw [hx]; exact hk)), fun hr' hk => let ⟨k₁, h1, h2⟩ := harr.2 hr' (by rw [hx]; exact hk); ⟨k₁, h1, .head h0 s1 h2⟩⟩
  | goto l => exact hq.elim
  | ret => exact ⟨_, a₁, w₁, hq, .of_steps (.one h0 s1) harr⟩
  | panic ch => exact ⟨_, a₁, w₁, hq, .of_steps (.one h0 s1) harr⟩
  | outgrown => exact ⟨_, a₁, w₁, hq, .of_steps (.one h0 s1) harr⟩
theorem J_scope {C : Ctx} {Q : Post} {g : Regs} {l : List HP} {c : Code} (h : J C c (PScope Q) g l) : J C (.scope c) Q g l := ⟨fun a w hf hs => wpIn_scope' (h.out a w hf hs)⟩
theorem At_scope_ret {C : Ctx} {Q : Post} {g : Regs} {l : List HP} (h : At C (Q .ret) g l) : At C (PScope Q .ret) g l := h
end Go.Sep
namespace Go.Proofs.YtfmkjbmogfhpbaaGreatDoor
open Go.Sep
section ops
variable {pf p bw bs pm bm bst bf n T w nR : Nat} {ws : List Int} {st : List Bool} {os : List RO} {ms : List Nat} {rs : List RG} {fs : List Int}
set_option maxHeartbeats 16000000 in
theorem right_spec (h : HT n T ws st) (hc : Ch ws 0 os T) (hM : MI n ms) (hF : RF w nR (lvs ms os) rs fs) (hR : nR = numR w T) (hld : LeadP os) : Does Tryz.prog 127 [ptr p 0, ptr pf 0] (fwdL pf p bw bs pm bm bst bf n T w nR ws st ms rs fs)
    (fun v l => ∃ t : Bool, (t = true ↔ RightP ms os) ∧ v = .bool t ∧ l = fwdL pf p bw bs pm bm bst bf n T w nR ws st ms rs fs) := by
  have hwl := h.wl
  have htn := h.tn
  have hnb := h.nb
  refine Does.ofM tiok Tryz.func127 (by kernel_rfl) rfl Tryz.ntmps127 rfl ?_
  intro W fr
  repeat' (first | refine Wka ?_ | intro _ | apply And.intro)
  rename_i b2 b3 b4
  refine J_scope ?_
  refine J_seq ?_
  refine J_label ?_
  refine At_then_normal ?_
  repeat' (first | refine Wka ?_ | intro _ | apply And.intro)
  refine JO_l (OL_call [] rfl rfl rfl (Walk_spec) rfl) rfl rfl ?_; rintro _ _ ⟨_, ⟨bh, rfl, rfl⟩, rfl⟩
  repeat' (first | refine Wka ?_ | intro _ | apply And.intro)
  refine J_rangeFunc (ps := [16, 17]) rfl (fun k d R hrec => ?_)
  let rest : List HP := blk b3 [ptr pf 0] 164 :: blk b2 [ptr p 0] 32 :: blk pf (fwdV p pm w bst bf nR) 219 :: (marksL pm bm n ms ++ regL bst bf rs fs)
  let Y : Bool → List HP := fun t => bif t then [pt k (.loop (R .done (some .ret))), pt d (.deferred (some [])), blk b4 [.bool false] 4] ++ rest else [pt k (.loop (R .ready none)), pt d (.deferred (some [])), blk b4 [.bool false] 4] ++ rest
  let Inv : Nat → Bool → Prop := fun i t => t = false ∧ ∃ j, j ≤ os.length ∧ posAt os T j = i ∧ ∀ (j' : Nat) (o : RO), j' < j → os[j']? = some o → lvB ms o = true → ∀ (k : Nat) (w : Int), (k : Int) < o.p → o.ws[k]? = some w → w = 0 ∨ LiveAt ms os (w - 1)
  let Stop : Bool → Prop := fun t => t = true ∧ ¬ RightP ms os
  have hy : ∀ (i : Nat) (x : Int) (s : Bool), Inv i s → st[i]? = some true → ws[i]? = some x → wordB x = true → i + 1 + (unN x).toNat ≤ T →
      DoesV Tryz.prog (.func (.yield k) #[] #[]) [.int .i64 i, headV (unK x) (unN x) (unP x)] (heapL p bw bs n ws T st ++ Y s)
        (fun v l => (v = .bool true ∧ ∃ s', Inv (i + 1 + (unN x).toNat) s' ∧ l = heapL p bw bs n ws T st ++ Y s') ∨ (v = .bool false ∧ ∃ s', Stop s' ∧ l = heapL p bw bs n ws T st ++ Y s')) := by
    rintro i x s ⟨rfl, j, hj, hp, hI⟩ hs hx hg hle
    have hit := h.lt hs
    have hjl : j < os.length := by
      rcases Nat.lt_or_ge j os.length with e | e
      · exact e
      · obtain rfl : j = os.length := by omega
        rw [posAt_end] at hp; omega
    obtain ⟨o, ho⟩ : ∃ o, os[j]? = some o := ⟨os[j], List.getElem?_eq_getElem _⟩
    have hoi : o.i = i := by rw [← hp, posAt_of ho]
    have hpn := hc.pos ho
    have hat := (hc.at ho).2
    have hxo := hat.2.2.1
    have hob := hc.o_lt ho
    rw [hoi, hx] at hxo
    injection hxo with hxo
    obtain ⟨_, _, u1, u2, u3⟩ := packI_un hat.2.1
    rw [← hxo] at u1 u2 u3
    rw [hoi] at hpn hob
    rw [u1, u2, u3]
    have hle2 := hle
    rw [u2] at hle
    refine DoesV.pre (pre := pt k (.loop (R .ready none)) :: (heapL p bw bs n ws T st ++ ([pt d (.deferred (some [])), blk b4 [.bool false] 4] ++ rest))) ?_ (fun H hl => hl.perm (picks_perm (is := [3]) rfl))
    refine DoesV.yield hrec rfl (by decide) ?_
    intro W fr
    refine J_regs (g' := [(2, ptr b2 0), (3, ptr b3 0), (4, ptr b4 0), (16, .int .i64 i), (17, headV o.k o.ws.length o.p)]) Sgt ?_
    repeat' (first | refine Wka ?_ | intro _ | apply And.intro)
    rename_i b6 _
    refine At_asg hrec P1 ?_
    repeat' (first | refine Wka ?_ | intro _ | apply And.intro)
    have hend : ∀ (z : Int) H, Stars (pt k (.loop (R .ready none)) :: (fwdL pf p bw bs pm bm bst bf n T w nR ws st ms rs fs ++ [blk b6 [.int .i64 o.k, .int .i64 o.ws.length, .int .i64 z] 82, pt d (.deferred (some [])), blk b4 [.bool false] 4, blk b3 [ptr pf 0] 164, blk b2 [ptr p 0] 32])) H → Stars (heapL p bw bs n ws T st ++ Y false) H :=
      fun z H hl => (hl.perm (picks_perm (is := [2, 2, 2, 0, 7, 7, 7, 7, 0, 0, 0, 0, 0, 0]) rfl)).left
    cases hlv : lvB ms o with
    | false =>
      have hnl : ¬ LiveAt ms os (i : Int) := by
        rintro ⟨j2, o2, hj2, hl2, he⟩
        have := Ch.one hc hj2 ho (by omega)
        subst this
        rw [ho] at hj2; injection hj2 with hj2; subst hj2
        rw [hlv] at hl2; cases hl2
      refine JO_l (OL_call [9, 2, 2, 2, 6, 6, 6, 6, 6] rfl rfl rfl (To_no h hc hM hnl) rfl) rfl rfl ?_
      rintro _ _ ⟨_, ⟨rfl, rfl⟩, rfl⟩
      repeat' (first | refine Wka ?_ | intro _ | apply And.intro)
      refine At_roundEnd (.inl ⟨rfl, rfl⟩) hrec (i := 9) rfl (l' := heapL p bw bs n ws T st ++ Y false) (hend _) (.inl ⟨rfl, false, ⟨rfl, j + 1, hjl, by rw [hpn, Int.toNat_natCast], fun j' o' hj' ho' hl' => ?_⟩, rfl⟩)
      by_cases e : j' = j
      · subst e
        rw [ho] at ho'; injection ho' with ho'; subst ho'
        rw [hlv] at hl'; cases hl'
      · exact hI j' o' (by omega) ho' hl'
    | true =>
      have hTo := To_yes (pf := pf) (p := p) (bw := bw) (bs := bs) (pm := pm) (bm := bm) (bst := bst) (bf := bf) h hc hM hF hR ho hlv
      rw [hoi] at hTo
      refine JO_l (OL_call [9, 2, 2, 2, 6, 6, 6, 6, 6] rfl rfl rfl hTo rfl) rfl rfl ?_
      rintro _ _ ⟨_, ⟨rfl, rfl⟩, rfl⟩
      repeat' (first | refine Wka ?_ | intro _ | apply And.intro)
      obtain ⟨_, k2, k3, k4, k5⟩ := findR_some (x := 0) h hc ho
      have hgb := of_decide_eq_true k3
      obtain ⟨m, hm⟩ := Int.eq_ofNat_of_zero_le hgb.2.2.2.2.1
      have hmw : m ≤ o.ws.length := by omega
      rw [hm]
      let MM : List HP := fwdL pf p bw bs pm bm bst bf n T w nR ws st ms rs fs ++ [pt k (.loop (R .busy none)), blk b6 [.int .i64 o.k, .int .i64 o.ws.length, .int .i64 (m : Int)] 82, pt d (.deferred (some [])), blk b4 [.bool false] 4, blk b3 [ptr pf 0] 164, blk b2 [ptr p 0] 32]
      refine J_loop (α := Nat) (fun q => q ≤ m ∧ ∀ (q' : Nat) (y : Int), q' < q → o.ws[q']? = some y → y = 0 ∨ LiveAt ms os (y - 1))
        (fun q => [(2, ptr b2 0), (3, ptr b3 0), (4, ptr b4 0), (5, .int .i64 i), (6, ptr b6 0), (27, .int .i64 m), (28, .int .i64 q)])
        (fun q => MM) (fun q => m - q) 0 ⟨Nat.zero_le _, fun q' y hq' => absurd hq' (Nat.not_lt_zero _)⟩ Sgt (fun H hl => hl) ?_
      rintro q ⟨hq, hJ⟩
      repeat' (first | refine Wkb ?_ | intro _ | apply And.intro)
      · rename_i hlt
        refine J_block ?_
        have hqm : q < m := by omega
        obtain ⟨y, hy⟩ : ∃ y, o.ws[q]? = some y := ⟨o.ws[q]'(by omega), List.getElem?_eq_getElem _⟩
        have hy64 := Ch.mem64 h hc (List.mem_of_getElem? ho) hy
        have hyw : ws[i + 1 + q]? = some y := by rw [← hoi, hat.2.2.2.1 q (by omega)]; exact hy
        have hRd := Read_okT (p := p) (bw := bw) (bs := bs) i q x y h hs hx hg (by rw [u2]; omega) hle2 hyw
        have hWd : ∃ (w' e : Int), (e = 0 ↔ (y = 0 ∨ LiveAt ms os (y - 1))) ∧ Does Tryz.prog 80 [ptr pf 0, .int .i64 y] (fwdL pf p bw bs pm bm bst bf n T w nR ws st ms rs fs)
            (fun v l => v = .tuple #[.int .i64 w', .int .i64 e] ∧ l = fwdL pf p bw bs pm bm bst bf n T w nR ws st ms rs fs) := by
          by_cases hl : LiveAt ms os (y - 1)
          · obtain ⟨j2, o2, hj2, hl2, he⟩ := hl
            have hyo : y = (o2.i : Int) + 1 := by omega
            rw [hyo]
            exact ⟨_, 0, ⟨fun _ => .inr ⟨j2, o2, hj2, hl2, by omega⟩, fun _ => rfl⟩, Word_yes h hc hM hF hR hj2 hl2⟩
          · by_cases h0 : y = 0
            · rw [h0]
              exact ⟨0, 0, ⟨fun _ => .inl rfl, fun _ => rfl⟩, Word_zero⟩
            · exact ⟨0, 5, ⟨fun e => absurd e (by decide), fun e => absurd e (by rintro (e | e); exact h0 e; exact hl e)⟩, Word_no h0 hy64 h hc hM hl⟩
        obtain ⟨w', e, he, hWd⟩ := hWd
        repeat' (first | refine Wka ?_ | intro _ | apply And.intro)
        refine JO_l (OL_call [1, 1, 1] rfl rfl rfl hRd rfl) rfl rfl ?_
        rintro _ _ ⟨_, ⟨rfl, rfl⟩, rfl⟩
        repeat' (first | refine Wka ?_ | intro _ | apply And.intro)
        refine JO_l (OL_call [3, 0, 0, 0, 0, 0, 0, 0, 0] rfl rfl rfl hWd rfl) rfl rfl ?_
        rintro _ _ ⟨_, ⟨rfl, rfl⟩, rfl⟩
        repeat' (first | refine Wka ?_ | intro _ | apply And.intro)
        · rename_i hne
          refine JO_l0 (OL_store (i := 12) rfl rfl rfl rfl rfl rfl rfl rfl) rfl ?_
          rintro _ _ rfl
          repeat' (first | refine Wka ?_ | intro _ | apply And.intro)
          refine At_roundEnd (.inr (.inl ⟨rfl, rfl⟩)) hrec (i := 10) rfl (l' := heapL p bw bs n ws T st ++ Y true) (fun H hl => (hl.perm (picks_perm (is := [3, 3, 3, 0, 8, 0, 7, 7, 0, 0, 0, 0, 0, 0]) rfl)).left) (.inr ⟨rfl, true, ⟨rfl, fun hr => hne (he.2 (hr j o ho hlv q y (by omega) hy))⟩, rfl⟩)
        · refine At_round (q + 1) (by show m - (q + 1) < m - q; omega) ⟨by omega, fun q' y' hq' hy' => ?_⟩ Sgt (fun H hl => hl)
          by_cases e2 : q' = q
          · subst e2
            rw [hy] at hy'; injection hy' with hy'; subst hy'
            exact he.1 (by assumption)
          · exact hJ q' y' (by omega) hy'
      · have hqe : q = m := by omega
        subst hqe
        repeat' (first | refine Wka ?_ | intro _ | apply And.intro)
        refine At_roundEnd (.inl ⟨rfl, rfl⟩) hrec (i := 9) rfl (l' := heapL p bw bs n ws T st ++ Y false) (hend _) (.inl ⟨rfl, false, ⟨rfl, j + 1, hjl, by rw [hpn, Int.toNat_natCast], fun j' o' hj' ho' hl' => ?_⟩, rfl⟩)
        by_cases e : j' = j
        · subst e
          rw [ho] at ho'; injection ho' with ho'; subst ho'
          exact fun k' w hk' hw => hJ k' w (by omega) hw
        · exact hI j' o' (by omega) ho' hl'
  refine ⟨_, [], _, (fun H hl => ?_), walkGen (bh := bh) (.func (.yield k) #[] #[]) Y Inv Stop h hy false ⟨rfl, 0, Nat.zero_le _, hc.pos0, fun j' o hj' => absurd hj' (Nat.not_lt_zero _)⟩, ?_⟩
  · have h2 := hl.perm (picks_perm (is := [2, 6, 6, 6, 0, 0, 0, 0, 0, 0, 0, 0, 0, 0, 0]) rfl)
    exact h2
  rintro v l1 ⟨s, hs, rfl, rfl⟩
  rcases hs with ⟨rfl, j, hj, hp, hI⟩ | ⟨rfl, hbad⟩
  · refine ⟨.ready, none, pt d (.deferred (some [])) :: blk b4 [.bool false] 4 :: fwdL pf p bw bs pm bm bst bf n T w nR ws st ms rs fs, by decide, fun H hl => ?_, fun _ => ?_, fun c hc => by cases hc⟩
    · have h2 := hl.perm (picks_perm (is := [4, 4, 4, 6, 1, 1, 1, 3, 3, 3, 3, 3]) rfl)
      exact h2.left
    · refine At_block_normal ?_
      rw [PThen_D (D' := [⟨.collected d, #[]⟩])]
      refine At_then_normal ?_
      repeat' (first | refine Wka ?_ | intro _ | apply And.intro)
      refine At_scope_ret ?_
      have hjl := hc.pos_T hj hp
      exact At_retM rfl P1 (.cell rfl rfl Mmt rfl .nil) rfl (fun H hl => hl.tail) ⟨true, ⟨fun _ j' o ho hl k' w' hk' hw' => hI j' o (by have := (List.getElem?_eq_some_iff.1 ho).1; omega) ho hl k' w' hk' hw', fun _ => rfl⟩, rfl, rfl⟩
  · refine ⟨.done, some .ret, pt d (.deferred (some [])) :: blk b4 [.bool false] 4 :: fwdL pf p bw bs pm bm bst bf n T w nR ws st ms rs fs, by decide, fun H hl => ?_, fun hc => (by cases hc), fun c hc => ?_⟩
    · have h2 := hl.perm (picks_perm (is := [4, 4, 4, 6, 1, 1, 1, 3, 3, 3, 3, 3]) rfl)
      exact h2.left
    · injection hc with hc
      subst hc
      repeat' (first | refine Wka ?_ | intro _ | apply And.intro)
      refine At_scope_ret ?_
      exact At_retM rfl P0 (.cell rfl rfl Mmt rfl .nil) rfl (fun H hl => hl.tail) ⟨false, ⟨fun e => absurd e (by decide), fun e => absurd e hbad⟩, rfl, rfl⟩
end ops
open Go.Sep
set_option maxHeartbeats 1000000 in
theorem CloneT_spec {R : HP} {m cap : Nat} {a : Option Addr} {cs : List Value} (h : Reads R 5 m a cap cs) (hp : plainL cs = true) (hm : m ≤ 1000000000) :
    Does Tryz.prog 147 [.slice a m cap] [R] (fun v l => ∃ a' cap', (a' = none → m = 0 ∧ cap' = 0) ∧ v = .slice a' m cap' ∧ l = [row 255 5 a' m cap' cs, R]) := by
  refine Does.of tiok Tryz.func147 (by kernel_rfl) rfl Tryz.ntmps147 rfl ?_
  intro W fr
  cases a with
  | none =>
    obtain ⟨rfl, rfl⟩ := h.empty rfl
    have hcs : cs = [] := List.eq_nil_of_length_eq_zero (by simpa using h.len)
    subst hcs
    repeat' (first | refine Wka ?_ | intro _ | apply And.intro)
    exact At_ret' rfl rfl (.tmp rfl .nil) rfl (fun _ hl => row_nil hl) ⟨none, 0, fun _ => ⟨rfl, rfl⟩, rfl, rfl⟩
  | some a =>
    repeat' (first | refine Wka ?_ | intro _ | apply And.intro)
    refine JO_l (OL_buildSlice (cs := []) rfl rfl rfl rfl rfl rfl rfl rfl) rfl rfl ?_
    rintro _ _ ⟨b, rfl, rfl⟩
    repeat' (first | refine Wka ?_ | intro _ | apply And.intro)
    refine JO_hp (fun _ hl => row_full (n := 0) (sz := 5) hl rfl) ?_
    refine JO_l (OL_append rfl rfl rfl rfl rfl P0 (h.src (.tail _ (.head _))) hp rfl (fun _ h => by cases h) (by omega) (by omega) (by decide)) rfl rfl ?_
    rintro _ _ ⟨a', cap', rfl, rfl⟩
    rw [Nat.zero_add, List.nil_append]
    repeat' (first | refine Wka ?_ | intro _ | apply And.intro)
    refine At_row P0 fun hr => ?_
    exact At_ret rfl rfl (.tmp rfl .nil) rfl (is := [0, 0]) rfl ⟨a', cap', hr.2.1, rfl, rfl⟩
open Go.Sep
structure Tch where
  who : Int
  place : Int
  what : Int
  was : Int
  is : Int
abbrev Tch.cells (t : Tch) : List Value := [.int .i64 t.who, .int .i64 t.place, .int .i64 t.what, .int .i64 t.was, .int .i64 t.is]
abbrev logV (lg : List Tch) : List Value := lg.flatMap Tch.cells
theorem plainL_log (lg : List Tch) : plainL (logV lg) = true := by
  induction lg with
  | nil => rfl
  | cons t lg ih => exact ih
abbrev cellsL (p bw : Nat) (a : Option Addr) (cap : Nat) (ws : List Int) (lg : List Tch) : List HP :=
  [blk p [sl bw ws.length, .slice a lg.length cap] 203, blk bw (intsV ws) 3, row 255 5 a lg.length cap (logV lg)]
set_option maxHeartbeats 1000000 in
theorem cellNew_ok (n : Nat) (h0 : 1 ≤ n) (h1 : n ≤ 65536) : Does Tryz.prog 62 [.int .i64 n] [] (fun v l => ∃ p bw, v = .tuple #[ptr p 0, .int .i64 0] ∧ l = cellsL p bw none 0 (List.replicate n 0) []) := by
  refine Does.of tiok Tryz.func62 (by kernel_rfl) rfl Tryz.ntmps62 rfl ?_
  intro W fr
  repeat' (first | refine Wka ?_ | intro _ | apply And.intro)
  refine JO_l (OL_make rfl rfl rfl rfl (by omega) (by omega) (by omega)) rfl rfl ?_
  rintro _ _ ⟨bw, rfl, rfl⟩
  rw [Int.toNat_natCast]
  repeat' (first | refine Wka ?_ | intro _ | apply And.intro)
  rename_i p
  refine At_ret' rfl rfl (.tmp rfl (.tmp rfl .nil)) rfl (fun H hl => ?_) ⟨p, bw, rfl, rfl⟩
  have e : cellsL p bw none 0 (List.replicate n 0) [] = [blk p [sl bw n, .slice none 0 0] 203, blk bw (List.replicate n (.int .i64 0)) 3, row 255 5 none 0 0 []] := by simp [cellsL, intsV, logV]
  rw [e]
  exact ((row_nil hl).perm (List.perm_append_comm (l₁ := [_])))
def mayTouch (who place : Int) (n : Nat) : Prop := 0 ≤ who ∧ who < 64 ∧ 0 ≤ place ∧ place < n
instance (who place : Int) (n : Nat) : Decidable (mayTouch who place n) := by unfold mayTouch; infer_instance
theorem reads_drop5 {R : HP} {m cap b o : Nat} {cs : List Value} (h : Reads R 5 m (some ⟨b, o, none⟩) cap cs) (k cap' : Nat) (hk : k ≤ m) : Reads R 5 (m - k) (some ⟨b, o + k * 5, none⟩) cap' (cs.drop (k * 5)) := by
  have hl := h.len
  refine ⟨by simp; omega, (fun h => by cases h), fun W l w hs hm i hi => ⟨b, o + k * 5, rfl, ?_⟩⟩
  obtain ⟨b', o', e, hc⟩ := h.cell W l w hs hm (k * 5 + i) (by omega)
  injection e with e
  injection e with e1 e2
  subst e1 e2
  rw [List.getElem?_drop, ← hc, Nat.add_assoc]
theorem logV_drop {lg : List Tch} {k : Nat} : (logV lg).drop (k * 5) = logV (lg.drop k) := by
  induction k generalizing lg with
  | zero => simp
  | succ k ih =>
    cases lg with
    | nil => simp
    | cons t r =>
      rw [List.drop_succ_cons, ← ih]
      rw [Nat.succ_mul]
      show (Value.int .i64 t.who :: Value.int .i64 t.place :: Value.int .i64 t.what :: Value.int .i64 t.was :: Value.int .i64 t.is :: logV r).drop (k * 5 + 1 + 1 + 1 + 1 + 1) = _
      simp only [List.drop_succ_cons]
set_option maxHeartbeats 8000000 in
theorem touch_ok {p bw : Nat} {a : Option Addr} {cap : Nat} {ws : List Int} {lg : List Tch} (who what : Int) (place : Nat) (f : FuncId) (ca : Array Value) (rc : List HP) (was is : Int) (ok : Bool)
    (hturn : Does Tryz.prog f (.int .i64 was :: ca.toList) rc (fun v l => v = .tuple #[.int .i64 is, .bool ok] ∧ l = rc)) (h1 : 0 ≤ who) (h2 : who < 64) (hp : place < ws.length) (hwas : ws[place]? = some was) (hws : ws.length ≤ 65536) (hlg : lg.length ≤ 200000) :
    Does Tryz.prog 124 [ptr p 0, .int .i64 who, .int .i64 place, .int .i64 what, .func (.func f) #[] ca] (cellsL p bw a cap ws lg ++ rc)
      (fun v l => ∃ a' cap' lg', lg'.length ≤ 200000 ∧ v = .tuple #[.int .i64 (if ok then was else 0), .int .i64 (if ok then 0 else 8)] ∧ l = cellsL p bw a' cap' (ws.set place is) lg' ++ rc) := by
  refine Does.of tiok Tryz.func124 (by kernel_rfl) rfl Tryz.ntmps124 rfl ?_
  intro W fr
  repeat' (first | refine Wka ?_ | intro _ | apply And.intro)
  refine JO_val (OV_idx (off := place) rfl rfl rfl rfl (by omega) (by omega) (by simp)) rfl rfl ?_
  refine JO_q (OQ_load (v := .int .i64 was) rfl rfl (.tail _ (.head _)) (by simp [intsV, hwas])) rfl rfl ?_
  repeat' (first | refine Wka ?_ | intro _ | apply And.intro)
  refine JO_l (OL_callP rfl rfl rfl hturn List.perm_append_comm) rfl rfl ?_
  rintro _ _ ⟨_, ⟨rfl, hl⟩, rfl⟩
  rw [hl]
  refine JO_perm (l' := cellsL p bw a cap ws lg ++ rc) List.perm_append_comm ?_
  repeat' (first | refine Wka ?_ | intro _ | apply And.intro)
  refine JO_val (OV_idx (off := place) rfl rfl rfl rfl (by omega) (by omega) (by simp)) rfl rfl ?_
  refine JO_l0 (OL_store rfl rfl rfl rfl rfl rfl P1 (putL_ints is hp)) rfl ?_
  rintro _ _ rfl
  by_cases hg : lg.length < 200000
  · repeat' (first | refine Wka ?_ | intro _ | apply And.intro)
    refine JO_l (OL_buildSlice (cs := Tch.cells ⟨who, place, what, was, is⟩) rfl rfl rfl rfl rfl rfl rfl rfl) rfl rfl ?_
    rintro _ _ ⟨b, rfl, rfl⟩
    refine JO_l (OL_append rfl rfl rfl rfl rfl P3 ((Reads.blk rfl).src (.head _)) rfl rfl (fun _ h => by cases h) (by omega) (by omega) (by decide)) rfl rfl ?_
    rintro _ _ ⟨a', cap', rfl, rfl⟩
    repeat' (first | refine Wka ?_ | intro _ | apply And.intro)
    have e : logV (lg ++ [⟨who, place, what, was, is⟩]) = logV lg ++ Tch.cells ⟨who, place, what, was, is⟩ := by simp [logV]
    cases ok
    · repeat' (first | refine Wka ?_ | intro _ | apply And.intro)
      exact At_ret' rfl rfl (.tmp rfl (.tmp rfl .nil)) rfl (l' := [_, _, _] ++ rc) (fun H hl => Stars.pickR (is := [0, 2, 0]) rfl 1 rfl hl) ⟨a', cap', lg ++ [⟨who, place, what, was, is⟩], by simp; omega, rfl, by simp only [cellsL, e, List.length_set, List.length_append, List.length_singleton]⟩
    · repeat' (first | refine Wka ?_ | intro _ | apply And.intro)
      exact At_ret' rfl rfl (.tmp rfl (.tmp rfl .nil)) rfl (l' := [_, _, _] ++ rc) (fun H hl => Stars.pickR (is := [0, 2, 0]) rfl 1 rfl hl) ⟨a', cap', lg ++ [⟨who, place, what, was, is⟩], by simp; omega, rfl, by simp only [cellsL, e, List.length_set, List.length_append, List.length_singleton]⟩
  · repeat' (first | refine Wka ?_ | intro _ | apply And.intro)
    refine J_row (i := 2) rfl fun hr => ?_
    have hRr := Reads.row (T := 255) hr.1 hr.2.1
    refine J_fact _ (fun w hs2 => hRr.some (by omega) hs2 (by simp)) ?_
    rintro ⟨b2, o2, rfl⟩
    refine J_draw [0, 0, 0, 0, 1, 0, 0, 0, 1, 0, 0, 0, 2, 0, 0, 2] (List.range 16) (by kernel_rfl) (by kernel_rfl) ?_
    repeat' (first | refine Wkd ?_ | intro _ | apply And.intro)
    refine JX_val rfl rfl (OV_slice (cap := cap) (len := lg.length) (m := (lg.length : Int) - 100000) (n := (lg.length : Int)) (p' := some ⟨b2, o2 + (lg.length - 100000) * 5, none⟩) rfl rfl rfl rfl rfl rfl rfl (by omega) (by omega) (by omega) (by rw [if_neg (show ¬ cap = ((lg.length : Int) - 100000).toNat by have := hr.2.2; omega), Option.map_some, addr_add, show ((lg.length : Int) - 100000).toNat = lg.length - 100000 by omega])) rfl rfl ?_
    have hD := reads_drop5 hRr (lg.length - 100000) (cap - (lg.length - 100000)) (by omega)
    rw [logV_drop, show lg.length - (lg.length - 100000) = 100000 by omega] at hD
    rw [show ((lg.length : Int)).toNat - ((lg.length : Int) - 100000).toNat = 100000 by omega, show cap - ((lg.length : Int) - 100000).toNat = cap - (lg.length - 100000) by omega]
    refine JX_l rfl rfl (OL_call [2] rfl rfl rfl (CloneT_spec hD (plainL_log _) (by omega)) rfl) rfl rfl ?_
    rintro _ _ ⟨_, ⟨a3, cap3, hn3, rfl, rfl⟩, rfl⟩
    repeat' (first | refine Wkd ?_ | intro _ | apply And.intro)
    refine At_then_normal ?_
    repeat' (first | refine Wka ?_ | intro _ | apply And.intro)
    refine JO_l (OL_buildSlice (cs := Tch.cells ⟨who, place, what, was, is⟩) rfl rfl rfl rfl rfl rfl rfl rfl) rfl rfl ?_
    rintro _ _ ⟨b, rfl, rfl⟩
    refine JO_l (OL_append rfl rfl rfl rfl rfl P2 ((Reads.blk rfl).src (.head _)) rfl rfl (fun _ h => by cases h) (by omega) (by omega) (by decide)) rfl rfl ?_
    rintro _ _ ⟨a', cap', rfl, rfl⟩
    repeat' (first | refine Wka ?_ | intro _ | apply And.intro)
    have e : logV (lg.drop (lg.length - 100000) ++ [⟨who, place, what, was, is⟩]) = logV (lg.drop (lg.length - 100000)) ++ Tch.cells ⟨who, place, what, was, is⟩ := by simp [logV]
    have e2 : (lg.drop (lg.length - 100000) ++ [(⟨who, place, what, was, is⟩ : Tch)]).length = 100000 + 1 := by simp; omega
    cases ok
    · repeat' (first | refine Wka ?_ | intro _ | apply And.intro)
      exact At_ret' rfl rfl (.tmp rfl (.tmp rfl .nil)) rfl (l' := [_, _, _] ++ rc) (fun H hl => Stars.pickR (is := [0, 3, 0]) rfl 2 rfl hl) ⟨a', cap', lg.drop (lg.length - 100000) ++ [⟨who, place, what, was, is⟩], by rw [e2]; omega, rfl, by simp only [cellsL, e, e2, List.length_set]⟩
    · repeat' (first | refine Wka ?_ | intro _ | apply And.intro)
      exact At_ret' rfl rfl (.tmp rfl (.tmp rfl .nil)) rfl (l' := [_, _, _] ++ rc) (fun H hl => Stars.pickR (is := [0, 3, 0]) rfl 2 rfl hl) ⟨a', cap', lg.drop (lg.length - 100000) ++ [⟨who, place, what, was, is⟩], by rw [e2]; omega, rfl, by simp only [cellsL, e, e2, List.length_set]⟩
open Go.Sep
theorem set_sameI {ws : List Int} {i : Nat} {v : Int} (h : ws[i]? = some v) : ws.set i v = ws := by
  obtain ⟨h1, h2⟩ := List.getElem?_eq_some_iff.1 h
  rw [← h2]; exact List.set_getElem_self h1
theorem loadTurn (was : Int) : Does Tryz.prog 189 [.int .i64 was] [] (fun v l => v = .tuple #[.int .i64 was, .bool true] ∧ l = []) := by
  refine Does.of tiok Tryz.func189 (by kernel_rfl) rfl Tryz.ntmps189 rfl ?_
  intro W fr
  repeat' (first | refine Wka ?_ | intro _ | apply And.intro)
  exact At_ret rfl rfl (.tmp rfl (.tmp rfl .nil)) rfl (is := []) rfl ⟨rfl, rfl⟩
theorem addTurn (was by_ : Int) (b : Nat) : Does Tryz.prog 139 [.int .i64 was, ptr b 0] [blk b [.int .i64 by_] 3] (fun v l => v = .tuple #[.int .i64 (IntKind.wrap .i64 (was + by_)), .bool true] ∧ l = [blk b [.int .i64 by_] 3]) := by
  refine Does.of tiok Tryz.func139 (by kernel_rfl) rfl Tryz.ntmps139 rfl ?_
  intro W fr
  repeat' (first | refine Wka ?_ | intro _ | apply And.intro)
  exact At_ret rfl rfl (.tmp rfl (.tmp rfl .nil)) rfl (is := [0]) rfl ⟨rfl, rfl⟩
theorem storeTurn (was w : Int) (b : Nat) : Does Tryz.prog 125 [.int .i64 was, ptr b 0] [blk b [.int .i64 w] 3] (fun v l => v = .tuple #[.int .i64 w, .bool true] ∧ l = [blk b [.int .i64 w] 3]) := by
  refine Does.of tiok Tryz.func125 (by kernel_rfl) rfl Tryz.ntmps125 rfl ?_
  intro W fr
  repeat' (first | refine Wka ?_ | intro _ | apply And.intro)
  exact At_ret rfl rfl (.tmp rfl (.tmp rfl .nil)) rfl (is := [0]) rfl ⟨rfl, rfl⟩
theorem swapTurn (was old w : Int) (b c : Nat) : Does Tryz.prog 209 [.int .i64 was, ptr b 0, ptr c 0] [blk b [.int .i64 old] 3, blk c [.int .i64 w] 3]
    (fun v l => v = .tuple #[.int .i64 (if was = old then w else was), .bool (decide (was = old))] ∧ l = [blk b [.int .i64 old] 3, blk c [.int .i64 w] 3]) := by
  refine Does.of tiok Tryz.func209 (by kernel_rfl) rfl Tryz.ntmps209 rfl ?_
  intro W fr
  repeat' (first | refine Wka ?_ | intro _ | apply And.intro)
  · rename_i h
    exact At_ret rfl rfl (.tmp rfl (.tmp rfl .nil)) rfl (is := [0, 0]) rfl ⟨by rw [if_neg h, decide_eq_false h]; rfl, rfl⟩
  · rename_i h
    exact At_ret rfl rfl (.tmp rfl (.tmp rfl .nil)) rfl (is := [0, 0]) rfl ⟨by rw [if_pos h, decide_eq_true h]; rfl, rfl⟩
section ops
variable {p bw : Nat} {a : Option Addr} {cap : Nat} {ws : List Int} {lg : List Tch}
theorem Load_ok (who was : Int) (place : Nat) (h1 : 0 ≤ who) (h2 : who < 64) (hp : place < ws.length) (hwas : ws[place]? = some was) (hws : ws.length ≤ 65536) (hlg : lg.length ≤ 200000) :
    Does Tryz.prog 178 [ptr p 0, .int .i64 who, .int .i64 place] (cellsL p bw a cap ws lg)
      (fun v l => ∃ a' cap' lg', lg'.length ≤ 200000 ∧ v = .tuple #[.int .i64 was, .int .i64 0] ∧ l = cellsL p bw a' cap' ws lg') := by
  refine Does.of tiok Tryz.func178 (by kernel_rfl) rfl Tryz.ntmps178 rfl ?_
  intro W fr
  repeat' (first | refine Wka ?_ | intro _ | apply And.intro)
  refine JO_l (OL_callP (r := []) rfl rfl rfl (touch_ok who 1 place _ #[] [] was was true (loadTurn was) h1 h2 hp hwas hws hlg) (List.Perm.refl _)) rfl rfl ?_
  rintro _ _ ⟨_, ⟨a', cap', lg', hlg', rfl, rfl⟩, rfl⟩
  rw [set_sameI hwas]
  repeat' (first | refine Wka ?_ | intro _ | apply And.intro)
  exact At_ret rfl rfl (.tmp rfl (.tmp rfl .nil)) rfl (is := [0, 0, 0]) rfl ⟨a', cap', lg', hlg', rfl, rfl⟩
theorem Add_ok (who was by_ : Int) (place : Nat) (h1 : 0 ≤ who) (h2 : who < 64) (hp : place < ws.length) (hwas : ws[place]? = some was) (hws : ws.length ≤ 65536) (hlg : lg.length ≤ 200000) :
    Does Tryz.prog 119 [ptr p 0, .int .i64 who, .int .i64 place, .int .i64 by_] (cellsL p bw a cap ws lg)
      (fun v l => ∃ a' cap' lg', lg'.length ≤ 200000 ∧ v = .tuple #[.int .i64 was, .int .i64 0] ∧ l = cellsL p bw a' cap' (ws.set place (IntKind.wrap .i64 (was + by_))) lg') := by
  refine Does.of tiok Tryz.func119 (by kernel_rfl) rfl Tryz.ntmps119 rfl ?_
  intro W fr
  repeat' (first | refine Wka ?_ | intro _ | apply And.intro)
  rename_i b
  refine JO_l (OL_callP (r := []) rfl rfl rfl (touch_ok who 4 place _ #[ptr b 0] [blk b [.int .i64 by_] 3] was _ true (addTurn was by_ b) h1 h2 hp hwas hws hlg) (List.perm_append_comm (l₁ := [_]))) rfl rfl ?_
  rintro _ _ ⟨_, ⟨a', cap', lg', hlg', rfl, rfl⟩, rfl⟩
  repeat' (first | refine Wka ?_ | intro _ | apply And.intro)
  exact At_ret rfl rfl (.tmp rfl (.tmp rfl .nil)) rfl (is := [0, 0, 0]) rfl ⟨a', cap', lg', hlg', rfl, rfl⟩
theorem Store_ok (who was w : Int) (place : Nat) (h1 : 0 ≤ who) (h2 : who < 64) (hp : place < ws.length) (hwas : ws[place]? = some was) (hws : ws.length ≤ 65536) (hlg : lg.length ≤ 200000) :
    Does Tryz.prog 105 [ptr p 0, .int .i64 who, .int .i64 place, .int .i64 w] (cellsL p bw a cap ws lg)
      (fun v l => ∃ a' cap' lg', lg'.length ≤ 200000 ∧ v = .int .i64 0 ∧ l = cellsL p bw a' cap' (ws.set place w) lg') := by
  refine Does.of tiok Tryz.func105 (by kernel_rfl) rfl Tryz.ntmps105 rfl ?_
  intro W fr
  repeat' (first | refine Wka ?_ | intro _ | apply And.intro)
  rename_i b
  refine JO_l (OL_callP (r := []) rfl rfl rfl (touch_ok who 2 place _ #[ptr b 0] [blk b [.int .i64 w] 3] was _ true (storeTurn was w b) h1 h2 hp hwas hws hlg) (List.perm_append_comm (l₁ := [_]))) rfl rfl ?_
  rintro _ _ ⟨_, ⟨a', cap', lg', hlg', rfl, rfl⟩, rfl⟩
  repeat' (first | refine Wka ?_ | intro _ | apply And.intro)
  exact At_ret rfl rfl (.tmp rfl .nil) rfl (is := [0, 0, 0]) rfl ⟨a', cap', lg', hlg', rfl, rfl⟩
theorem Swap_ok (who was old w : Int) (place : Nat) (h1 : 0 ≤ who) (h2 : who < 64) (hp : place < ws.length) (hwas : ws[place]? = some was) (hws : ws.length ≤ 65536) (hlg : lg.length ≤ 200000) :
    Does Tryz.prog 207 [ptr p 0, .int .i64 who, .int .i64 place, .int .i64 old, .int .i64 w] (cellsL p bw a cap ws lg)
      (fun v l => ∃ a' cap' lg', lg'.length ≤ 200000 ∧ v = .int .i64 (if was = old then 0 else 8) ∧ l = cellsL p bw a' cap' (ws.set place (if was = old then w else was)) lg') := by
  refine Does.of tiok Tryz.func207 (by kernel_rfl) rfl Tryz.ntmps207 rfl ?_
  intro W fr
  repeat' (first | refine Wka ?_ | intro _ | apply And.intro)
  rename_i b c
  refine JO_l (OL_callP (r := []) rfl rfl rfl (touch_ok who 3 place _ #[ptr b 0, ptr c 0] [blk b [.int .i64 old] 3, blk c [.int .i64 w] 3] was _ (decide (was = old)) (swapTurn was old w b c) h1 h2 hp hwas hws hlg) ((List.Perm.swap _ _ _).trans (List.perm_append_comm (l₁ := [_, _])))) rfl rfl ?_
  rintro _ _ ⟨_, ⟨a', cap', lg', hlg', rfl, rfl⟩, rfl⟩
  repeat' (first | refine Wka ?_ | intro _ | apply And.intro)
  exact At_ret rfl rfl (.tmp rfl .nil) rfl (is := [0, 0, 0]) rfl ⟨a', cap', lg', hlg', by simp [retV], rfl⟩
theorem Words_spec (hws : ws.length ≤ 65536) : Does Tryz.prog 78 [ptr p 0] (cellsL p bw a cap ws lg)
    (fun v l => ∃ a' cap', (a' = none → ws.length = 0 ∧ cap' = 0) ∧ v = .slice a' ws.length cap' ∧ l = row 3 1 a' ws.length cap' (intsV ws) :: cellsL p bw a cap ws lg) := by
  refine Does.of tiok Tryz.func78 (by kernel_rfl) rfl Tryz.ntmps78 rfl ?_
  intro W fr
  repeat' (first | refine Wka ?_ | intro _ | apply And.intro)
  refine JO_l (OL_call [1] rfl rfl rfl (CloneI_spec (Reads.blk (by simp [intsV])) (plainL_ints ws) (by omega)) rfl) rfl rfl ?_
  rintro _ _ ⟨_, ⟨a', cap', hn, rfl, rfl⟩, rfl⟩
  repeat' (first | refine Wka ?_ | intro _ | apply And.intro)
  exact At_ret rfl rfl (.tmp rfl .nil) rfl (is := [0, 1, 0, 0]) rfl ⟨a', cap', hn, rfl, rfl⟩
end ops
open Go.Sep
abbrev LgZ : Type := Option Addr × Nat × List Tch
abbrev cellsZ (p bw : Nat) (ws : List Int) : HP := exP (fun x : LgZ => x.2.2.length ≤ 200000) (fun x => cellsL p bw x.1 x.2.1 ws x.2.2)
theorem cellsZ_in {p bw : Nat} {a : Option Addr} {cap : Nat} {ws : List Int} {lg : List Tch} {r : List HP} {H : PH} (hlg : lg.length ≤ 200000) (h : Stars (cellsL p bw a cap ws lg ++ r) H) : Stars (cellsZ p bw ws :: r) H := exP_in (a, cap, lg) hlg h
section ops
variable {p bw : Nat} {ws : List Int}
theorem Load_z (who was : Int) (place : Nat) (h1 : 0 ≤ who) (h2 : who < 64) (hwas : ws[place]? = some was) (hws : ws.length ≤ 65536) :
    Does Tryz.prog 178 [ptr p 0, .int .i64 who, .int .i64 place] [cellsZ p bw ws] (fun v l => v = .tuple #[.int .i64 was, .int .i64 0] ∧ l = [cellsZ p bw ws]) :=
  have hp := (List.getElem?_eq_some_iff.1 hwas).1
  Does.exP (Load_ok (p := p) (bw := bw) (a := none) (cap := 0) (lg := []) who was place h1 h2 hp hwas hws (Nat.zero_le _)).1 fun x hx => by
    rw [List.append_nil]
    exact (Load_ok who was place h1 h2 hp hwas hws hx).post fun v l => by
      rintro ⟨a', cap', lg', hl, rfl, rfl⟩
      exact ⟨_, ⟨rfl, rfl⟩, fun H hs => cellsZ_in hl (by rwa [List.append_nil])⟩
theorem Add_z (who was : Int) (place : Nat) (h1 : 0 ≤ who) (h2 : who < 64) (hwas : ws[place]? = some was) (hws : ws.length ≤ 65536) (hb : -9223372036854775808 ≤ was + 1 ∧ was + 1 ≤ 9223372036854775807) :
    Does Tryz.prog 119 [ptr p 0, .int .i64 who, .int .i64 place, .int .i64 1] [cellsZ p bw ws] (fun v l => v = .tuple #[.int .i64 was, .int .i64 0] ∧ l = [cellsZ p bw (ws.set place (was + 1))]) :=
  have hp := (List.getElem?_eq_some_iff.1 hwas).1
  Does.exP (Add_ok (p := p) (bw := bw) (a := none) (cap := 0) (lg := []) who was 1 place h1 h2 hp hwas hws (Nat.zero_le _)).1 fun x hx => by
    rw [List.append_nil]
    exact (Add_ok who was 1 place h1 h2 hp hwas hws hx).post fun v l => by
      rintro ⟨a', cap', lg', hl, rfl, rfl⟩
      rw [wrap_id hb.1 hb.2]
      exact ⟨_, ⟨rfl, rfl⟩, fun H hs => cellsZ_in hl (by rwa [List.append_nil])⟩
theorem Store_z (who w : Int) (place : Nat) (h1 : 0 ≤ who) (h2 : who < 64) (hp : place < ws.length) (hws : ws.length ≤ 65536) :
    Does Tryz.prog 105 [ptr p 0, .int .i64 who, .int .i64 place, .int .i64 w] [cellsZ p bw ws] (fun v l => v = .int .i64 0 ∧ l = [cellsZ p bw (ws.set place w)]) :=
  have hwas : ws[place]? = some ws[place] := List.getElem?_eq_getElem hp
  Does.exP (Store_ok (p := p) (bw := bw) (a := none) (cap := 0) (lg := []) who _ w place h1 h2 hp hwas hws (Nat.zero_le _)).1 fun x hx => by
    rw [List.append_nil]
    exact (Store_ok who _ w place h1 h2 hp hwas hws hx).post fun v l => by
      rintro ⟨a', cap', lg', hl, rfl, rfl⟩
      exact ⟨_, ⟨rfl, rfl⟩, fun H hs => cellsZ_in hl (by rwa [List.append_nil])⟩
theorem CellsWords_z (hws : ws.length ≤ 65536) : Does Tryz.prog 78 [ptr p 0] [cellsZ p bw ws]
    (fun v l => ∃ a' cap', (a' = none → ws.length = 0 ∧ cap' = 0) ∧ v = .slice a' ws.length cap' ∧ l = [rowz 3 1 a' ws.length cap' (intsV ws), cellsZ p bw ws]) :=
  Does.exP (Words_spec (p := p) (bw := bw) (a := none) (cap := 0) (lg := []) hws).1 fun x hx => by
    rw [List.append_nil]
    exact (Words_spec hws).post fun v l => by
      rintro ⟨a', cap', hn, rfl, rfl⟩
      refine ⟨_, ⟨a', cap', hn, rfl, rfl⟩, fun H hs => rowz_row ?_⟩
      exact Stars.swap (cellsZ_in (a := x.1) (cap := x.2.1) hx (by exact hs.perm (List.perm_append_comm (l₁ := [_]))))
end ops
end Go.Proofs.YtfmkjbmogfhpbaaGreatDoor
namespace Go.Sep
def bigM {α : Type} (f : α → HP) (xs : List α) : HP := big (xs.map f)
theorem permM_at {α : Type} : ∀ {rs : List α} {k : Nat} {r : α}, rs[k]? = some r → rs.Perm (r :: rs.eraseIdx k)
  | [], k, r, h => by simp at h
  | x :: rs, 0, r, h => by simp at h; subst h; exact List.Perm.refl _
  | x :: rs, k + 1, r, h => ((permM_at (rs := rs) (k := k) (by simpa using h)).cons x).trans (List.Perm.swap _ _ _)
theorem permM_put {α : Type} : ∀ {rs : List α} {k : Nat} {r' : α}, k < rs.length → (r' :: rs.eraseIdx k).Perm (rs.set k r')
  | [], k, r, h => by simp at h
  | x :: rs, 0, r, h => List.Perm.refl _
  | x :: rs, k + 1, r, h => (List.Perm.swap _ _ _).trans ((permM_put (rs := rs) (k := k) (by simpa using h)).cons x)
theorem bigM.out {α : Type} {f : α → HP} {xs : List α} {k : Nat} {x : α} {l : List HP} {H : PH} (hk : xs[k]? = some x) (h : Stars (bigM f xs :: l) H) : Stars (f x :: bigM f (xs.eraseIdx k) :: l) H := by
  have h1 : Stars (xs.map f ++ l) H := h.open
  have h2 : Stars ((f x :: (xs.eraseIdx k).map f) ++ l) H := h1.perm (((permM_at hk).map f).append_right _)
  have h3 : Stars ((xs.eraseIdx k).map f ++ (f x :: l)) H := h2.perm (List.perm_middle.symm)
  exact Stars.swap (Stars.shut h3)
theorem bigM.back {α : Type} {f : α → HP} {xs : List α} {k : Nat} {x : α} {l : List HP} {H : PH} (hk : k < xs.length) (h : Stars (f x :: bigM f (xs.eraseIdx k) :: l) H) : Stars (bigM f (xs.set k x) :: l) H := by
  have h1 := (Stars.swap h).open
  have h2 : Stars ((f x :: (xs.eraseIdx k).map f) ++ l) H := h1.perm List.perm_middle
  exact Stars.shut (h2.perm (((permM_put (r' := x) hk).map f).append_right _))
theorem bigM.put {α : Type} {f : α → HP} {xs : List α} {k : Nat} {x y : α} {l : List HP} {H : PH} (hk : xs[k]? = some x) (h : Stars (f y :: bigM f xs :: l) H) : Stars (bigM f (xs.set k y) :: l) H :=
  bigM.back (List.getElem?_eq_some_iff.1 hk).1 (Stars.swap (bigM.out hk (Stars.swap h)).tail)
theorem bigM.snoc {α : Type} {f : α → HP} {xs : List α} {x : α} {l : List HP} {H : PH} (h : Stars (f x :: bigM f xs :: l) H) : Stars (bigM f (xs ++ [x]) :: l) H := by
  have h1 := (Stars.swap h).open
  refine Stars.shut ?_
  rw [List.map_append]
  refine Stars.perm ?_ h1
  rw [List.append_assoc]
  exact List.Perm.refl _
end Go.Sep
namespace Go.Proofs.YtfmkjbmogfhpbaaGreatDoor
open Go.Sep
def cwI (ws : List Int) (n q : Nat) : List Int := ws.take q ++ List.replicate (n - q) 0
theorem cwI_len {ws : List Int} {n q : Nat} (h : ws.length = n) (hq : q ≤ n) : (cwI ws n q).length = n := by
  unfold cwI
  rw [List.length_append, List.length_take, List.length_replicate]
  omega
theorem cwI_set {ws : List Int} {n q : Nat} {y : Int} (h : ws.length = n) (hq : q < n) (hy : ws[q]? = some y) : (cwI ws n q).set q y = cwI ws n (q + 1) := by
  apply List.ext_getElem?
  intro i
  unfold cwI
  rw [List.getElem?_set]
  simp only [List.getElem?_append, List.length_append, List.length_take, List.length_replicate, List.getElem?_take, List.getElem?_replicate]
  rw [show min q ws.length = q by omega, show min (q + 1) ws.length = q + 1 by omega]
  by_cases e : q = i
  · subst e
    rw [if_pos rfl, if_pos (by omega), if_pos (by omega), if_pos (by omega), hy]
  · rw [if_neg e]
    by_cases e2 : i < q
    · rw [if_pos e2, if_pos e2, if_pos (by omega), if_pos (by omega)]
    · rw [if_neg e2, if_neg (show ¬ i < q + 1 by omega)]
      by_cases e3 : i < n
      · rw [if_pos (show i - q < n - q by omega), if_pos (show i - (q + 1) < n - (q + 1) by omega)]
      · rw [if_neg (show ¬ i - q < n - q by omega), if_neg (show ¬ i - (q + 1) < n - (q + 1) by omega)]
theorem cwI_all {ws : List Int} {n : Nat} (h : ws.length = n) : cwI ws n n = ws := by
  unfold cwI
  rw [Nat.sub_self, ← h, List.take_length]
  simp
theorem numR_half {w T : Nat} (h : 2 ≤ w) : numR w T ≤ T / 2 + 1 := by
  unfold numR
  have h1 : (T + w - 1) / w < T / 2 + 2 := by
    rw [Nat.div_lt_iff_lt_mul (by omega), Nat.add_mul]
    have := Nat.mul_le_mul_left (T / 2) h
    omega
  omega
structure WX where
  c : Nat
  who : Int
  fn : FuncId
  region : Int
  wa : Option Addr
  wl : List Int
  wc : Nat
  oa : Option Addr
  ol : List Int
  oc : Nat
  from_ : Int
  to : Int
  size : Int
  refs : Int
  at_ : Int
  word : Int
  end_ : Int
abbrev wkC (ps : Nat) (x : WX) : List Value := [ptr ps 0, .int .i64 x.who, .func (.func x.fn) #[] #[], .int .i64 x.region, .slice x.wa x.wl.length x.wc, .slice x.oa x.ol.length x.oc, .int .i64 x.from_, .int .i64 x.to, .int .i64 x.size, .int .i64 x.refs, .int .i64 x.at_, .int .i64 x.word, .int .i64 x.end_]
abbrev wkL (ps : Nat) (x : WX) : List HP := [blk x.c (wkC ps x) 171, rowz 3 1 x.wa x.wl.length x.wc (intsV x.wl), rowz 3 1 x.oa x.ol.length x.oc (intsV x.ol)]
def wkH (ps : Nat) (x : WX) : HP := big (wkL ps x)
abbrev wk0 (who c : Nat) : WX := ⟨c, who, 128, 0, none, [], 0, none, [], 0, 0, 0, 0, 0, 0, 0, 0⟩
abbrev wkP (xs : List WX) : List Value := xs.map fun x => ptr x.c 0
theorem bigM_nil {α : Type} {f : α → HP} {l : List HP} {H : PH} (h : Stars l H) : Stars (bigM f [] :: l) H :=
  ⟨fun _ => none, H, fun _ => .inl rfl, (fun _ _ e => by cases e), Sub.refl _, trivial, h⟩
abbrev sldZ (ps pf p bw bs pm bm bst bf n T w nR pw bw2 pz bz : Nat) (ws : List Int) (st : List Bool) (ms : List Nat) (rs : List RG) (fs : List Int) (wds sts : List Int) (wa : Option Addr) (wc : Nat) (xs : List WX) (pv mv tv : Int) : List HP :=
  blk ps [ptr pf 0, ptr p 0, ptr pw 0, ptr pz 0, .slice wa xs.length wc, .int .i64 pv, .int .i64 mv, .int .i64 tv] 167 :: row 168 1 wa xs.length wc (wkP xs) :: bigM (wkH ps) xs ::
    cellsZ pz bz sts :: cellsZ pw bw2 wds :: (heapL p bw bs n ws T st ++ (blk pf (fwdV p pm w bst bf nR) 219 :: (marksL pm bm n ms ++ regL bst bf rs fs)))
section cells
variable {p bw : Nat} {a : Option Addr} {cap : Nat} {ws : List Int} {lg : List Tch}
theorem CellsClear_spec : Does Tryz.prog 106 [ptr p 0] (cellsL p bw a cap ws lg) (fun v l => v = .tuple #[] ∧ l = cellsL p bw none 0 ws []) := by
  refine Does.of tiok Tryz.func106 (by kernel_rfl) rfl Tryz.ntmps106 rfl ?_
  intro W fr
  repeat' (first | refine Wka ?_ | intro _ | apply And.intro)
  refine At_ret' rfl rfl .nil rfl (l' := cellsL p bw none 0 ws []) (fun H hl => ?_) ⟨rfl, rfl⟩
  have h2 : Stars [blk p [sl bw ws.length, .slice none 0 0] 203, blk bw (intsV ws) 3] H := (hl.perm (picks_perm (is := [0, 0]) rfl)).left
  exact (row_nil h2).perm (List.perm_append_comm (l₁ := [_]))
theorem CellsClear_z : Does Tryz.prog 106 [ptr p 0] [cellsZ p bw ws] (fun v l => v = .tuple #[] ∧ l = [cellsZ p bw ws]) :=
  Does.exP (CellsClear_spec (p := p) (bw := bw) (a := none) (cap := 0) (ws := ws) (lg := [])).1 fun x hx => by
    rw [List.append_nil]
    exact CellsClear_spec.post fun v l => by
      rintro ⟨rfl, rfl⟩
      exact ⟨_, ⟨rfl, rfl⟩, fun H hs => cellsZ_in (Nat.zero_le _) (by rwa [List.append_nil])⟩
end cells
section ops
variable {p bw bs pm bm n T : Nat} {ws : List Int} {st : List Bool} {os : List RO} {ms : List Nat}
set_option maxHeartbeats 16000000 in
theorem SliderNew_ok (words : Int) (wk : Nat) (hw : 1 ≤ wk ∧ wk ≤ 64) (h64 : In64 words) (h : HT n T ws st) (hc : Ch ws 0 os T) (hM : MI n ms) (hld : LeadP os) (hyes : RightP ms os) (hn1 : 1 ≤ n) : Does Tryz.prog 107 [ptr p 0, ptr pm 0, .int .i64 words, .int .i64 wk] (heapL p bw bs n ws T st ++ marksL pm bm n ms)
    (fun v l => ∃ (ps pf w nR bst bf pw bw2 pz bz : Nat) (rs : List RG) (fs : List Int) (wa : Option Addr) (wc : Nat) (xs : List WX), 2 ≤ w ∧ RF w nR (lvs ms os) rs fs ∧ nR = numR w T ∧ xs.length = wk ∧ (∀ (j : Nat) (y : WX), xs[j]? = some y → y = wk0 j y.c) ∧
      v = .tuple #[ptr ps 0, .int .i64 0] ∧ l = sldZ ps pf p bw bs pm bm bst bf n T w nR pw bw2 pz bz ws st ms rs fs ws (List.replicate (3 + nR) 0) wa wc xs (((T : Int) - ((szL (lvs ms os) : Nat) : Int) + 16 - 1) / 16) 0 0) := by
  obtain ⟨h641, h642⟩ := h64
  have hwl := h.wl
  have htn := h.tn
  have hnb := h.nb
  refine Does.of tiok Tryz.func107 (by kernel_rfl) rfl Tryz.ntmps107 rfl ?_
  intro W fr
  repeat' (first | refine Wka ?_ | intro _ | apply And.intro)
  have hwd : In64 (if words < 2 then 2 else words) := by unfold In64; split <;> omega
  refine JO_l (OL_call [0, 0, 0, 0, 0] rfl rfl rfl (FwdNew_spec (if words < 2 then 2 else words) hwd h hc hM) rfl) rfl rfl ?_
  rintro _ _ ⟨_, ⟨pf, w, nR, bst, bf, rs, fs, hw2, hF, hnR, rfl, rfl⟩, rfl⟩
  repeat' (first | refine Wka ?_ | intro _ | apply And.intro)
  refine JO_l (OL_call [0, 0, 0, 0, 0, 0, 0, 0, 0] rfl rfl rfl (right_spec h hc hM hF hnR hld) rfl) rfl rfl ?_
  rintro _ _ ⟨_, ⟨t, ht, rfl, rfl⟩, rfl⟩
  obtain rfl : t = true := ht.2 hyes
  have hsz := goI_bd (ms := ms) (os := os) (q := os.length)
  have hszT : szL (lvs ms os) ≤ T := by
    have h1 := hc.sz
    have h2 : szL (lvs ms os) ≤ szL os := szL_filter
    omega
  have hM0 : Does Tryz.prog 16 [ptr p 0] (heapL p bw bs n ws T st) _ := heapTop
  repeat' (first | refine Wka ?_ | intro _ | apply And.intro)
  refine JO_l (OL_call [1, 1, 1] rfl rfl rfl hM0 rfl) rfl rfl ?_
  rintro _ _ ⟨_, ⟨rfl, rfl⟩, rfl⟩
  repeat' (first | refine Wka ?_ | intro _ | apply And.intro)
  refine JO_l (OL_call [3, 0, 0, 0, 0, 0, 0, 0, 0] rfl rfl rfl (FwdTop_spec hF) rfl) rfl rfl ?_
  rintro _ _ ⟨_, ⟨rfl, rfl⟩, rfl⟩
  repeat' (first | refine Wka ?_ | intro _ | apply And.intro)
  have hM1 : Does Tryz.prog 44 [ptr p 0] (heapL p bw bs n ws T st) _ := heapSize
  rename_i ps
  refine JO_l (OL_call [2, 2, 2] rfl rfl rfl hM1 rfl) rfl rfl ?_
  rintro _ _ ⟨_, ⟨rfl, rfl⟩, rfl⟩
  repeat' (first | refine Wka ?_ | intro _ | apply And.intro)
  refine JO_l (OL_call [] rfl rfl rfl (cellNew_ok n hn1 hnb) rfl) rfl rfl ?_; rintro _ _ ⟨_, ⟨pw, bw2, rfl, rfl⟩, rfl⟩
  repeat' (first | refine Wka ?_ | intro _ | apply And.intro)
  have hM2 : Does Tryz.prog 15 [ptr p 0] (heapL p bw bs n ws T st) _ := heapWords hwl hnb
  refine JO_l (OL_call [4, 4, 4] rfl rfl rfl hM2 rfl) rfl rfl ?_
  rintro _ _ ⟨_, ⟨a0, cap0, ha0, rfl, rfl⟩, rfl⟩
  repeat' (first | refine Wka ?_ | intro _ | apply And.intro)
  refine J_row P0 fun hr => ?_
  have hRw := Reads.row (T := 3) hr.1 hr.2.1
  obtain ⟨pv, hpv⟩ : ∃ pv, pv = (((T : Int) - ((szL (lvs ms os) : Nat) : Int) + 16 - 1) / 16) := ⟨_, rfl⟩
  rw [← hpv]
  refine J_loop (α := Nat) (fun q => q ≤ n)
    (fun q => [(3, .int .i64 wk), (10, ptr pf 0), (11, ptr ps 0), (52, .slice a0 n cap0), (53, .int .i64 n), (54, .int .i64 q)])
    (fun q => row 3 1 a0 n cap0 (intsV ws) :: heapL p bw bs n ws T st ++ (blk ps [ptr pf 0, ptr p 0, ptr pw 0, .pointer none, .slice none 0 0, .int .i64 pv, .int .i64 0, .int .i64 0] 167 :: cellsZ pw bw2 (cwI ws n q) :: (blk pf (fwdV p pm w bst bf nR) 219 :: (marksL pm bm n ms ++ regL bst bf rs fs))))
    (fun q => n - q) 0 (Nat.zero_le _) Sgt (fun H hl => ?_) ?_
  · have h1 := Stars.pick (is := [5, 5, 5, 0, 0, 0, 0, 0, 0, 0, 0, 0, 0, 0]) (kp := cellsL pw bw2 none 0 (List.replicate n 0) [] ++ (row 3 1 a0 n cap0 (intsV ws) :: heapL p bw bs n ws T st ++ (blk ps [ptr pf 0, ptr p 0, ptr pw 0, .pointer none, .slice none 0 0, .int .i64 pv, .int .i64 0, .int .i64 0] 167 :: (blk pf (fwdV p pm w bst bf nR) 219 :: (marksL pm bm n ms ++ regL bst bf rs fs))))) rfl hl
    exact (cellsZ_in (Nat.zero_le _) h1).pick (is := [1, 1, 1, 1, 1, 0, 0, 0, 0, 0, 0, 0]) rfl
  intro q hq
  have hcl := cwI_len hwl hq
  repeat' (first | refine Wkb ?_ | intro _ | apply And.intro)
  · rename_i hlt
    refine J_block ?_
    have hqn : q < n := by omega
    obtain ⟨y, hy⟩ : ∃ y, ws[q]? = some y := ⟨ws[q]'(by omega), List.getElem?_eq_getElem _⟩
    repeat' (first | refine Wka ?_ | intro _ | apply And.intro)
    refine JO_fact _ (fun w hs => hRw.some (by omega) hs (.head _)) ?_
    rintro ⟨b2, o2, rfl⟩
    refine JO_val (OV_idx (off := o2 + q) rfl rfl rfl rfl (by omega) (by omega) (by simp)) rfl rfl ?_
    refine JO_q (OQ_read (v := .int .i64 y) hRw (.head _) rfl rfl (by omega) (by simp [intsV, hy])) rfl rfl ?_
    repeat' (first | refine Wka ?_ | intro _ | apply And.intro)
    refine JO_l (OL_call [5] rfl rfl rfl (Store_z (p := pw) (bw := bw2) (ws := cwI ws n q) 0 y q (by decide) (by decide) (by omega) (by omega)) rfl) rfl rfl ?_
    rintro _ _ ⟨_, ⟨rfl, rfl⟩, rfl⟩
    repeat' (first | refine Wka ?_ | intro _ | apply And.intro)
    rw [cwI_set hwl hqn hy]
    exact At_round (q + 1) (by show n - (q + 1) < n - q; omega) (by omega) Sgt (fun H hl => hl.pick (is := [1, 1, 1, 1, 1, 0, 0, 0, 0, 0, 0, 0]) rfl)
  · have hqe : q = n := by omega
    subst hqe
    rw [cwI_all hwl]
    repeat' (first | refine Wka ?_ | intro _ | apply And.intro)
    refine JO_l (OL_call [5] rfl rfl rfl (CellsClear_z (p := pw) (bw := bw2) (ws := ws)) rfl) rfl rfl ?_
    rintro _ _ ⟨_, ⟨rfl, rfl⟩, rfl⟩
    repeat' (first | refine Wka ?_ | intro _ | apply And.intro)
    refine JO_l (OL_call [] rfl rfl rfl (RegLen_spec (w := w) (bst := bst) (bf := bf) (nR := nR)) rfl) rfl rfl ?_
    rintro _ _ ⟨_, ⟨rfl, rfl⟩, rfl⟩
    have hw1 : 1 ≤ w := by rw [hw2]; exact widthR_in.1
    have hnRT := numR_le (T := T) hw1
    rw [← hnR] at hnRT
    repeat' (first | refine Wka ?_ | intro _ | apply And.intro)
    have hw2' : 2 ≤ w := by
      rw [hw2]
      unfold widthR
      split <;> omega
    have hhalf := numR_half (T := T) hw2'
    rw [← hnR] at hhalf
    rw [show (3 : Int) + (nR : Int) = ((3 + nR : Nat) : Int) by omega]
    refine JO_l (OL_call [] rfl rfl rfl (cellNew_ok (3 + nR) (by omega) (by omega)) rfl) rfl rfl ?_; rintro _ _ ⟨_, ⟨pz, bz, rfl, rfl⟩, rfl⟩
    repeat' (first | refine Wka ?_ | intro _ | apply And.intro)
    refine JO_l0 (OL_store (i := 8) rfl rfl rfl rfl rfl rfl rfl rfl) rfl ?_
    rintro _ _ rfl
    repeat' (first | refine Wka ?_ | intro _ | apply And.intro)
    refine J_loop (α := Nat × List WX × Option Addr × Nat) (fun x => x.1 ≤ wk ∧ x.2.1.length = x.1 ∧ ∀ (j : Nat) (y : WX), x.2.1[j]? = some y → y = wk0 j y.c)
      (fun x => [(10, ptr pf 0), (11, ptr ps 0), (85, .int .i64 wk), (86, .int .i64 x.1)])
      (fun x => blk ps [ptr pf 0, ptr p 0, ptr pw 0, ptr pz 0, .slice x.2.2.1 x.1 x.2.2.2, .int .i64 pv, .int .i64 0, .int .i64 0] 167 :: row 168 1 x.2.2.1 x.1 x.2.2.2 (wkP x.2.1) :: bigM (wkH ps) x.2.1 ::
        cellsZ pz bz (List.replicate (3 + nR) 0) :: cellsZ pw bw2 ws :: (heapL p bw bs q ws T st ++ (blk pf (fwdV p pm w bst bf nR) 219 :: (marksL pm bm q ms ++ regL bst bf rs fs))))
      (fun x => wk - x.1) (0, [], none, 0) ⟨Nat.zero_le _, rfl, fun j y hy => by cases hy⟩ Sgt (fun H hl => ?_) ?_
    · have h1 := Stars.pick (is := [1, 1, 1, 0, 0, 1, 1, 1, 1, 1, 1, 1, 1, 1]) (kp := cellsL pz bz none 0 (List.replicate (3 + nR) 0) [] ++ (blk ps [ptr pf 0, ptr p 0, ptr pw 0, ptr pz 0, .slice none 0 0, .int .i64 pv, .int .i64 0, .int .i64 0] 167 :: cellsZ pw bw2 ws :: (heapL p bw bs q ws T st ++ (blk pf (fwdV p pm w bst bf nR) 219 :: (marksL pm bm q ms ++ regL bst bf rs fs))))) rfl hl
      have h2 := row_nil (T := 168) (sz := 1) (bigM_nil (f := wkH ps) (cellsZ_in (Nat.zero_le _) h1))
      exact h2.pick (is := [3, 0, 0, 0, 0, 0, 0, 0, 0, 0, 0, 0, 0, 0]) rfl
    rintro ⟨k, xs, wa, wc⟩ ⟨hk, hxl, hxs⟩
    dsimp only at hk hxl hxs ⊢
    repeat' (first | refine Wkb ?_ | intro _ | apply And.intro)
    · refine J_block ?_
      repeat' (first | refine Wka ?_ | intro _ | apply And.intro)
      rename_i c0
      refine JO_l (OL_buildSlice (cs := [ptr c0 0]) rfl rfl rfl rfl rfl rfl rfl rfl) rfl rfl ?_
      rintro _ _ ⟨b, rfl, rfl⟩
      repeat' (first | refine Wka ?_ | intro _ | apply And.intro)
      refine JO_l (OL_append rfl rfl rfl rfl rfl P3 ((Reads.blk rfl).src (.head _)) rfl rfl (fun _ h => by cases h) (by omega) (by omega) (by decide)) rfl rfl ?_
      rintro _ _ ⟨a', cap', rfl, rfl⟩
      repeat' (first | refine Wka ?_ | intro _ | apply And.intro)
      refine At_round (k + 1, xs ++ [wk0 k c0], a', cap') (by show wk - (k + 1) < wk - k; omega) ⟨by show k + 1 ≤ wk; omega, by simp [hxl], fun j y hy => ?_⟩ Sgt (fun H hl => ?_)
      · by_cases e : j = xs.length
        · subst e
          rw [List.getElem?_append_right (Nat.le_refl _)] at hy
          simp at hy
          rw [← hy, hxl]
        · have hjl : j < xs.length := by
            have := (List.getElem?_eq_some_iff.1 hy).1
            rw [List.length_append, List.length_singleton] at this
            omega
          rw [List.getElem?_append_left hjl] at hy
          exact hxs j y hy
      · have h1 := hl.pick (l := _) (is := [3, 3, 0, 0, 1, 1, 1, 1, 1, 1, 1, 1, 1, 1, 1]) rfl
        have h2 := Stars.shut (ps := wkL ps (wk0 k c0)) ((rowz_nil (T := 3) (sz := 1) (a := none) (rowz_nil (T := 3) (sz := 1) (a := none) h1)).pick (l := _) (is := [2, 0, 0, 0, 0, 0, 0, 0, 0, 0, 0, 0, 0, 0, 0, 0, 0]) rfl)
        have h3 := (bigM.snoc (f := wkH ps) (x := wk0 k c0) h2).pick (l := _) (is := [1, 1, 0, 0, 0, 0, 0, 0, 0, 0, 0, 0, 0, 0]) rfl
        rw [show wkP (xs ++ [wk0 k c0]) = wkP xs ++ [ptr c0 0] by simp [wkP]]
        exact h3
    · have hke : k = wk := by omega
      subst hke
      repeat' (first | refine Wka ?_ | intro _ | apply And.intro)
      subst hpv
      exact At_ret rfl rfl (.tmp rfl (.tmp rfl .nil)) rfl (is := [0, 0, 0, 0, 0, 0, 0, 0, 0, 0, 0, 0, 0, 0]) rfl ⟨ps, pf, w, nR, bst, bf, pw, bw2, pz, bz, rs, fs, wa, wc, xs, hw2', hF, hnR, hxl, hxs, rfl, by subst hxl; rfl⟩
end ops
end Go.Proofs.YtfmkjbmogfhpbaaGreatDoor
set_option maxRecDepth 8000
namespace Go.Proofs.YtfmkjbmogfhpbaaGreatDoor
open Go.Sep
abbrev deqZ (p pc bw : Nat) (ws : List Int) (room : Nat) : List HP := [blk p [ptr pc 0, .int .i64 room] 210, cellsZ pc bw ws]
abbrev nx (f : FuncId) : Value := .func (.func f) #[] #[]
abbrev dcL (c p : Nat) (who : Int) (next : Value) (b t word fault : Int) : HP := blk c [ptr p 0, .int .i64 who, next, .int .i64 b, .int .i64 t, .int .i64 word, .int .i64 fault] 248
theorem setz_same {ws : List Int} {k : Nat} {w : Int} (h : ws[k]? = some w) : ws.set k w = ws := by
  obtain ⟨hk, rfl⟩ := List.getElem?_eq_some_iff.1 h
  exact List.set_getElem_self hk
section swap
variable {p bw : Nat} {ws : List Int}
theorem Swap_z (who was old w : Int) (place : Nat) (h1 : 0 ≤ who) (h2 : who < 64) (hp : place < ws.length) (hwas : ws[place]? = some was) (hws : ws.length ≤ 65536) :
    Does Tryz.prog 207 [ptr p 0, .int .i64 who, .int .i64 place, .int .i64 old, .int .i64 w] [cellsZ p bw ws]
      (fun v l => v = .int .i64 (if was = old then 0 else 8) ∧ l = [cellsZ p bw (ws.set place (if was = old then w else was))]) :=
  Does.exP (Swap_ok (p := p) (bw := bw) (a := none) (cap := 0) (lg := []) who was old w place h1 h2 hp hwas hws (Nat.zero_le _)).1 fun x hx => by
    rw [List.append_nil]
    exact (Swap_ok who was old w place h1 h2 hp hwas hws hx).post fun v l => by
      rintro ⟨a', cap', lg', hl, rfl, rfl⟩
      exact ⟨_, ⟨rfl, rfl⟩, fun H hs => cellsZ_in hl (by rwa [List.append_nil])⟩
end swap
section ops
variable {p pc bw c : Nat} {ws : List Int} {room : Nat} {who : Int}
theorem deqNew_ok (n : Nat) (h0 : 2 ≤ n) (h1 : n ≤ 1024) : Does Tryz.prog 71 [.int .i64 n] [] (fun v l => ∃ p pc bw, v = .tuple #[ptr p 0, .int .i64 0] ∧ l = deqZ p pc bw (List.replicate (n + 2) 0) n) := by
  refine Does.of tiok Tryz.func71 (by kernel_rfl) rfl Tryz.ntmps71 rfl ?_
  intro W fr
  repeat' (first | refine Wka ?_ | intro _ | apply And.intro)
  rw [show (2 + (n : Int)) = ((n + 2 : Nat) : Int) by omega]
  refine JO_l (OL_call [] rfl rfl rfl (cellNew_ok (n + 2) (by omega) (by omega)) rfl) rfl rfl ?_; rintro _ _ ⟨_, ⟨pc, bw, rfl, rfl⟩, rfl⟩
  refine JO_hp (l' := [cellsZ pc bw (List.replicate (n + 2) 0)]) (fun H hl => cellsZ_in (lg := []) (by decide) hl) ?_
  repeat' (first | refine Wka ?_ | intro _ | apply And.intro)
  rename_i p
  exact At_ret rfl rfl (.tmp rfl (.tmp rfl .nil)) rfl (is := [0, 0]) rfl ⟨p, pc, bw, rfl, rfl⟩
theorem Push_spec (word : Int) : Does Tryz.prog 157 [ptr p 0, .int .i64 word] [] (fun v l => ∃ c, v = ptr c 0 ∧ l = [dcL c p 0 (nx 174) 0 0 word 0]) := by
  refine Does.of tiok Tryz.func157 (by kernel_rfl) rfl Tryz.ntmps157 rfl ?_
  intro W fr
  repeat' (first | refine Wka ?_ | intro _ | apply And.intro)
  rename_i c
  exact At_ret rfl rfl (.tmp rfl .nil) rfl (is := [0]) rfl ⟨c, rfl, rfl⟩
theorem Pop_spec : Does Tryz.prog 121 [ptr p 0] [] (fun v l => ∃ c, v = ptr c 0 ∧ l = [dcL c p 0 (nx 142) 0 0 0 0]) := by
  refine Does.of tiok Tryz.func121 (by kernel_rfl) rfl Tryz.ntmps121 rfl ?_
  intro W fr
  repeat' (first | refine Wka ?_ | intro _ | apply And.intro)
  rename_i c
  exact At_ret rfl rfl (.tmp rfl .nil) rfl (is := [0]) rfl ⟨c, rfl, rfl⟩
theorem Steal_ok (h : 1 ≤ who ∧ who < 64) : Does Tryz.prog 145 [ptr p 0, .int .i64 who] [] (fun v l => ∃ c, v = .tuple #[ptr c 0, .int .i64 0] ∧ l = [dcL c p who (nx 167) 0 0 0 0]) := by
  refine Does.of tiok Tryz.func145 (by kernel_rfl) rfl Tryz.ntmps145 rfl ?_
  intro W fr
  repeat' (first | refine Wka ?_ | intro _ | apply And.intro)
  rename_i c
  exact At_ret rfl rfl (.tmp rfl (.tmp rfl .nil)) rfl (is := [0]) rfl ⟨c, rfl, rfl⟩
theorem deqCells : Does Tryz.prog 206 [ptr p 0] (deqZ p pc bw ws room) (fun v l => v = ptr pc 0 ∧ l = deqZ p pc bw ws room) := by
  refine Does.of tiok Tryz.func206 (by kernel_rfl) rfl Tryz.ntmps206 rfl ?_
  intro W fr
  repeat' (first | refine Wka ?_ | intro _ | apply And.intro)
  exact At_ret rfl rfl (.tmp rfl .nil) rfl (is := [0, 0]) rfl ⟨rfl, rfl⟩
set_option maxRecDepth 8000 in
theorem DoneD_f {f : FuncId} {b t word fault : Int} : Does Tryz.prog 230 [ptr c 0] [dcL c p who (nx f) b t word fault] (fun v l => v = .bool false ∧ l = [dcL c p who (nx f) b t word fault]) := by
  refine Does.of tiok Tryz.func230 (by kernel_rfl) rfl Tryz.ntmps230 rfl ?_
  intro W fr
  repeat' (first | refine Wka ?_ | intro _ | apply And.intro)
  exact At_ret rfl rfl (.tmp rfl .nil) rfl (is := [0]) rfl ⟨rfl, rfl⟩
set_option maxRecDepth 8000 in
theorem DoneD_t {b t word fault : Int} : Does Tryz.prog 230 [ptr c 0] [dcL c p who .nilFunc b t word fault] (fun v l => v = .bool true ∧ l = [dcL c p who .nilFunc b t word fault]) := by
  refine Does.of tiok Tryz.func230 (by kernel_rfl) rfl Tryz.ntmps230 rfl ?_
  intro W fr
  repeat' (first | refine Wka ?_ | intro _ | apply And.intro)
  exact At_ret rfl rfl (.tmp rfl .nil) rfl (is := [0]) rfl ⟨rfl, rfl⟩
theorem ResultD_t {b t word fault : Int} : Does Tryz.prog 228 [ptr c 0] [dcL c p who .nilFunc b t word fault] (fun v l => v = .tuple #[.int .i64 word, .int .i64 fault] ∧ l = [dcL c p who .nilFunc b t word fault]) := by
  refine Does.of tiok Tryz.func228 (by kernel_rfl) rfl Tryz.ntmps228 rfl ?_
  intro W fr
  repeat' (first | refine Wka ?_ | intro _ | apply And.intro)
  refine JO_l (OL_call [0] rfl rfl rfl (DoneD_t) rfl) rfl rfl ?_; rintro _ _ ⟨_, ⟨rfl, rfl⟩, rfl⟩
  repeat' (first | refine Wka ?_ | intro _ | apply And.intro)
  refine J_draw [0, 0, 0, 1, 0, 0, 0, 1, 0, 0] (List.range 10) (by kernel_rfl) (by kernel_rfl) ?_
  repeat' (first | refine Wkd ?_ | intro _ | apply And.intro)
  repeat' (first | refine Wka ?_ | intro _ | apply And.intro)
  exact At_ret rfl rfl (.tmp rfl (.tmp rfl .nil)) rfl (is := [0]) rfl ⟨rfl, rfl⟩
theorem end_ok {next : Value} {b t word fault : Int} : Does Tryz.prog 161 [ptr c 0, .int .i64 0] [dcL c p who next b t word fault] (fun v l => v = .tuple #[] ∧ l = [dcL c p who .nilFunc b t word 0]) := by
  refine Does.of tiok Tryz.func161 (by kernel_rfl) rfl Tryz.ntmps161 rfl ?_
  intro W fr
  repeat' (first | refine Wka ?_ | intro _ | apply And.intro)
  exact At_end rfl rfl .nil rfl (is := [0]) rfl ⟨rfl, rfl⟩
theorem end_err {next : Value} {b t word fault : Int} (e : Int) (he : e ≠ 0) : Does Tryz.prog 161 [ptr c 0, .int .i64 e] [dcL c p who next b t word fault] (fun v l => v = .tuple #[] ∧ l = [dcL c p who .nilFunc b t 0 e]) := by
  refine Does.of tiok Tryz.func161 (by kernel_rfl) rfl Tryz.ntmps161 rfl ?_
  intro W fr
  repeat' (first | refine Wka ?_ | intro _ | apply And.intro)
  all_goals first | exact At_end rfl rfl .nil rfl (is := [0]) rfl ⟨rfl, rfl⟩ | (rename_i hx; exact absurd hx he)
theorem fresh_spec {next : Value} {b word fault : Int} (t : Nat) (ht : t < 10000000000000000) : Does Tryz.prog 208 [ptr c 0] [dcL c p who next b t word fault] (fun v l => v = .int .i64 (((t : Int) / 4096 + 1) * 4096) ∧ l = [dcL c p who next b t word fault]) := by
  refine Does.of tiok Tryz.func208 (by kernel_rfl) rfl Tryz.ntmps208 rfl ?_
  intro W fr
  repeat' (first | refine Wka ?_ | intro _ | apply And.intro)
  exact At_ret rfl rfl (.tmp rfl .nil) rfl (is := [0]) rfl ⟨rfl, rfl⟩
theorem loadD {next : Value} {b t word fault was : Int} (k : Nat) (h1 : ws.length = room + 2) (h3 : room ≤ 1024) (h4 : 0 ≤ who) (h5 : who < 64) (hk : k < room + 2) (hwas : ws[k]? = some was) :
    Does Tryz.prog 159 [ptr c 0, .int .i64 k] (dcL c p who next b t word fault :: deqZ p pc bw ws room)
    (fun v l => v = .int .i64 was ∧ l = dcL c p who next b t word fault :: deqZ p pc bw ws room) := by
  refine Does.of tiok Tryz.func159 (by kernel_rfl) rfl Tryz.ntmps159 rfl ?_
  intro W fr
  repeat' (first | refine Wka ?_ | intro _ | apply And.intro)
  refine J_draw [0, 0, 0, 1, 0, 0, 1, 0, 0, 0, 1, 0, 2, 0, 0, 0, 0, 0] (List.range 18) (by kernel_rfl) (by kernel_rfl) ?_
  repeat' (first | refine Wkd ?_ | intro _ | apply And.intro)
  refine JX_l rfl rfl (OL_call [2] rfl rfl rfl (Load_z who was k h4 h5 hwas (by omega)) rfl) rfl rfl ?_
  rintro _ _ ⟨_, ⟨rfl, rfl⟩, rfl⟩
  repeat' (first | refine Wkd ?_ | intro _ | apply And.intro)
  repeat' (first | refine Wka ?_ | intro _ | apply And.intro)
  exact At_ret rfl rfl (.tmp rfl .nil) rfl (is := [1, 1, 0]) rfl ⟨rfl, rfl⟩
set_option maxHeartbeats 2000000 in
theorem pushLook_ok {b t word fault : Int} {m : Nat} (hw : ws[0]? = some (m : Int)) (h1 : ws.length = room + 2) (h3 : room ≤ 1024) (h4 : 0 ≤ who) (h5 : who < 64) (hn : m < room) : Does Tryz.prog 174 [ptr c 0] (dcL c p who (nx 174) b t word fault :: deqZ p pc bw ws room)
    (fun v l => v = .tuple #[] ∧ l = dcL c p who (nx 188) m t word fault :: deqZ p pc bw ws room) := by
  refine Does.of tiok Tryz.func174 (by kernel_rfl) rfl Tryz.ntmps174 rfl ?_
  intro W fr
  repeat' (first | refine Wka ?_ | intro _ | apply And.intro)
  refine JO_l (OL_call [0, 0, 0] rfl rfl rfl (loadD 0 h1 h3 h4 h5 (by omega) hw) rfl) rfl rfl ?_; rintro _ _ ⟨_, ⟨rfl, rfl⟩, rfl⟩
  repeat' (first | refine Wka ?_ | intro _ | apply And.intro)
  refine J_draw [0, 0, 0, 1, 0, 0, 0, 1, 0, 0, 1, 0] (List.range 12) (by kernel_rfl) (by kernel_rfl) ?_
  repeat' (first | refine Wkd ?_ | intro _ | apply And.intro)
  repeat' (first | refine Wka ?_ | intro _ | apply And.intro)
  exact At_end rfl rfl .nil rfl (is := [0, 0, 0]) rfl ⟨rfl, rfl⟩
set_option maxHeartbeats 2000000 in
theorem pushLook_full {b t word fault : Int} {m : Nat} (hw : ws[0]? = some (m : Int)) (h1 : ws.length = room + 2) (h3 : room ≤ 1024) (h4 : 0 ≤ who) (h5 : who < 64) (hn : room ≤ m) (hm : m ≤ 4096) : Does Tryz.prog 174 [ptr c 0] (dcL c p who (nx 174) b t word fault :: deqZ p pc bw ws room)
    (fun v l => v = .tuple #[] ∧ l = dcL c p who Value.nilFunc m t 0 6 :: deqZ p pc bw ws room) := by
  refine Does.of tiok Tryz.func174 (by kernel_rfl) rfl Tryz.ntmps174 rfl ?_
  intro W fr
  repeat' (first | refine Wka ?_ | intro _ | apply And.intro)
  refine JO_l (OL_call [0, 0, 0] rfl rfl rfl (loadD 0 h1 h3 h4 h5 (by omega) hw) rfl) rfl rfl ?_; rintro _ _ ⟨_, ⟨rfl, rfl⟩, rfl⟩
  repeat' (first | refine Wka ?_ | intro _ | apply And.intro)
  refine J_draw [0, 0, 0, 1, 0, 0, 0, 1, 0, 0, 1, 0] (List.range 12) (by kernel_rfl) (by kernel_rfl) ?_
  repeat' (first | refine Wkd ?_ | intro _ | apply And.intro)
  repeat' (first | refine Wka ?_ | intro _ | apply And.intro)
  refine JO_l (OL_call [0] rfl rfl rfl (end_err 6 (by decide)) rfl) rfl rfl ?_; rintro _ _ ⟨_, ⟨rfl, rfl⟩, rfl⟩
  repeat' (first | refine Wka ?_ | intro _ | apply And.intro)
  exact At_end rfl rfl .nil rfl (is := [0, 0, 0]) rfl ⟨rfl, rfl⟩
set_option maxHeartbeats 2000000 in
theorem pushWord_ok {t word fault : Int} {m : Nat} (h1 : ws.length = room + 2) (h3 : room ≤ 1024) (h4 : 0 ≤ who) (h5 : who < 64) (hn : m < room) : Does Tryz.prog 188 [ptr c 0] (dcL c p who (nx 188) m t word fault :: deqZ p pc bw ws room)
    (fun v l => v = .tuple #[] ∧ l = dcL c p who (nx 196) m t word fault :: deqZ p pc bw (ws.set (2 + m) word) room) := by
  obtain ⟨was, hwas⟩ : ∃ u, ws[2 + m]? = some u := ⟨ws[2 + m]'(by omega), List.getElem?_eq_getElem _⟩
  refine Does.of tiok Tryz.func188 (by kernel_rfl) rfl Tryz.ntmps188 rfl ?_
  intro W fr
  repeat' (first | refine Wka ?_ | intro _ | apply And.intro)
  refine J_draw [0, 0, 0, 1, 0, 0, 1, 0, 0, 0, 1, 0, 0, 0, 1, 0, 0, 0, 0, 1, 2] (List.range 21) (by kernel_rfl) (by kernel_rfl) ?_
  repeat' (first | refine Wkd ?_ | intro _ | apply And.intro)
  rw [show (2 + (m : Int)) = ((2 + m : Nat) : Int) by omega]
  refine JX_l rfl rfl (OL_call [2] rfl rfl rfl (Store_z who word (2 + m) h4 h5 (by omega) (by omega)) rfl) rfl rfl ?_
  rintro _ _ ⟨_, ⟨rfl, rfl⟩, rfl⟩
  repeat' (first | refine Wkd ?_ | intro _ | apply And.intro)
  repeat' (first | refine Wka ?_ | intro _ | apply And.intro)
  exact At_end rfl rfl .nil rfl (is := [0, 1, 0]) rfl ⟨rfl, rfl⟩
set_option maxHeartbeats 2000000 in
theorem pushEnd_ok {t word fault : Int} {m : Nat} (h1 : ws.length = room + 2) (h3 : room ≤ 1024) (h4 : 0 ≤ who) (h5 : who < 64) (hn : m < room) : Does Tryz.prog 196 [ptr c 0] (dcL c p who (nx 196) m t word fault :: deqZ p pc bw ws room)
    (fun v l => v = .tuple #[] ∧ l = dcL c p who Value.nilFunc m t 0 0 :: deqZ p pc bw (ws.set 0 ((m : Int) + 1)) room) := by
  obtain ⟨was, hwas⟩ : ∃ u, ws[0]? = some u := ⟨ws[0]'(by omega), List.getElem?_eq_getElem _⟩
  refine Does.of tiok Tryz.func196 (by kernel_rfl) rfl Tryz.ntmps196 rfl ?_
  intro W fr
  repeat' (first | refine Wka ?_ | intro _ | apply And.intro)
  refine J_draw [0, 0, 0, 1, 0, 0, 1, 0, 0, 0, 1, 0, 0, 0, 1, 0, 2] (List.range 17) (by kernel_rfl) (by kernel_rfl) ?_
  repeat' (first | refine Wkd ?_ | intro _ | apply And.intro)
  refine JX_l rfl rfl (OL_call [2] rfl rfl rfl (Store_z who ((m : Int) + 1) 0 h4 h5 (by omega) (by omega)) rfl) rfl rfl ?_
  rintro _ _ ⟨_, ⟨rfl, rfl⟩, rfl⟩
  repeat' (first | refine Wkd ?_ | intro _ | apply And.intro)
  repeat' (first | refine Wka ?_ | intro _ | apply And.intro)
  refine JO_l (OL_call [0] rfl rfl rfl (end_ok) rfl) rfl rfl ?_; rintro _ _ ⟨_, ⟨rfl, rfl⟩, rfl⟩
  repeat' (first | refine Wka ?_ | intro _ | apply And.intro)
  exact At_end rfl rfl .nil rfl (is := [0, 1, 0]) rfl ⟨rfl, rfl⟩
set_option maxHeartbeats 2000000 in
theorem popLook_ok {b t word fault : Int} {m : Nat} (hw : ws[0]? = some (m : Int)) (h1 : ws.length = room + 2) (h3 : room ≤ 1024) (h4 : 0 ≤ who) (h5 : who < 64) (hn : 1 ≤ m) (hm : m ≤ 4096) : Does Tryz.prog 142 [ptr c 0] (dcL c p who (nx 142) b t word fault :: deqZ p pc bw ws room)
    (fun v l => v = .tuple #[] ∧ l = dcL c p who (nx 160) ((m : Int) - 1) t word fault :: deqZ p pc bw ws room) := by
  refine Does.of tiok Tryz.func142 (by kernel_rfl) rfl Tryz.ntmps142 rfl ?_
  intro W fr
  repeat' (first | refine Wka ?_ | intro _ | apply And.intro)
  refine JO_l (OL_call [0, 0, 0] rfl rfl rfl (loadD 0 h1 h3 h4 h5 (by omega) hw) rfl) rfl rfl ?_; rintro _ _ ⟨_, ⟨rfl, rfl⟩, rfl⟩
  repeat' (first | refine Wka ?_ | intro _ | apply And.intro)
  exact At_end rfl rfl .nil rfl (is := [0, 0, 0]) rfl ⟨rfl, rfl⟩
set_option maxHeartbeats 2000000 in
theorem popLook_empty {b t word fault : Int} (hw : ws[0]? = some 0) (h1 : ws.length = room + 2) (h3 : room ≤ 1024) (h4 : 0 ≤ who) (h5 : who < 64) : Does Tryz.prog 142 [ptr c 0] (dcL c p who (nx 142) b t word fault :: deqZ p pc bw ws room)
    (fun v l => v = .tuple #[] ∧ l = dcL c p who Value.nilFunc (0 - 1) t 0 7 :: deqZ p pc bw ws room) := by
  refine Does.of tiok Tryz.func142 (by kernel_rfl) rfl Tryz.ntmps142 rfl ?_
  intro W fr
  repeat' (first | refine Wka ?_ | intro _ | apply And.intro)
  refine JO_l (OL_call [0, 0, 0] rfl rfl rfl (loadD 0 h1 h3 h4 h5 (by omega) hw) rfl) rfl rfl ?_; rintro _ _ ⟨_, ⟨rfl, rfl⟩, rfl⟩
  repeat' (first | refine Wka ?_ | intro _ | apply And.intro)
  refine JO_l (OL_call [0] rfl rfl rfl (end_err 7 (by decide)) rfl) rfl rfl ?_; rintro _ _ ⟨_, ⟨rfl, rfl⟩, rfl⟩
  repeat' (first | refine Wka ?_ | intro _ | apply And.intro)
  exact At_end rfl rfl .nil rfl (is := [0, 0, 0]) rfl ⟨rfl, rfl⟩
set_option maxHeartbeats 2000000 in
theorem popLess_ok {t word fault : Int} {m : Nat} (h1 : ws.length = room + 2) (h3 : room ≤ 1024) (h4 : 0 ≤ who) (h5 : who < 64) : Does Tryz.prog 160 [ptr c 0] (dcL c p who (nx 160) m t word fault :: deqZ p pc bw ws room)
    (fun v l => v = .tuple #[] ∧ l = dcL c p who (nx 179) m t word fault :: deqZ p pc bw (ws.set 0 m) room) := by
  obtain ⟨was, hwas⟩ : ∃ u, ws[0]? = some u := ⟨ws[0]'(by omega), List.getElem?_eq_getElem _⟩
  refine Does.of tiok Tryz.func160 (by kernel_rfl) rfl Tryz.ntmps160 rfl ?_
  intro W fr
  repeat' (first | refine Wka ?_ | intro _ | apply And.intro)
  refine J_draw [0, 0, 0, 1, 0, 0, 1, 0, 0, 0, 1, 0, 0, 0, 1, 2] (List.range 16) (by kernel_rfl) (by kernel_rfl) ?_
  repeat' (first | refine Wkd ?_ | intro _ | apply And.intro)
  refine JX_l rfl rfl (OL_call [2] rfl rfl rfl (Store_z who m 0 h4 h5 (by omega) (by omega)) rfl) rfl rfl ?_
  rintro _ _ ⟨_, ⟨rfl, rfl⟩, rfl⟩
  repeat' (first | refine Wkd ?_ | intro _ | apply And.intro)
  repeat' (first | refine Wka ?_ | intro _ | apply And.intro)
  exact At_end rfl rfl .nil rfl (is := [0, 1, 0]) rfl ⟨rfl, rfl⟩
set_option maxHeartbeats 2000000 in
theorem popWord_ok {t word fault was : Int} {m : Nat} (hn : m < room) (hw : ws[2 + m]? = some was) (h1 : ws.length = room + 2) (h3 : room ≤ 1024) (h4 : 0 ≤ who) (h5 : who < 64) : Does Tryz.prog 179 [ptr c 0] (dcL c p who (nx 179) m t word fault :: deqZ p pc bw ws room)
    (fun v l => v = .tuple #[] ∧ l = dcL c p who (nx 190) m t was fault :: deqZ p pc bw ws room) := by
  refine Does.of tiok Tryz.func179 (by kernel_rfl) rfl Tryz.ntmps179 rfl ?_
  intro W fr
  repeat' (first | refine Wka ?_ | intro _ | apply And.intro)
  rw [show (2 + (m : Int)) = ((2 + m : Nat) : Int) by omega]
  refine JO_l (OL_call [0, 0, 0] rfl rfl rfl (loadD (2 + m) h1 h3 h4 h5 (by omega) hw) rfl) rfl rfl ?_; rintro _ _ ⟨_, ⟨rfl, rfl⟩, rfl⟩
  repeat' (first | refine Wka ?_ | intro _ | apply And.intro)
  exact At_end rfl rfl .nil rfl (is := [0, 0, 0]) rfl ⟨rfl, rfl⟩
set_option maxHeartbeats 2000000 in
theorem popTop_more {b t word fault : Int} {q : Nat} (hw : ws[1]? = some (q : Int)) (h1 : ws.length = room + 2) (h3 : room ≤ 1024) (h4 : 0 ≤ who) (h5 : who < 64) (hn : ((q : Int) % 4096) < b) : Does Tryz.prog 190 [ptr c 0] (dcL c p who (nx 190) b t word fault :: deqZ p pc bw ws room)
    (fun v l => v = .tuple #[] ∧ l = dcL c p who Value.nilFunc b q word 0 :: deqZ p pc bw ws room) := by
  refine Does.of tiok Tryz.func190 (by kernel_rfl) rfl Tryz.ntmps190 rfl ?_
  intro W fr
  repeat' (first | refine Wka ?_ | intro _ | apply And.intro)
  refine JO_l (OL_call [0, 0, 0] rfl rfl rfl (loadD 1 h1 h3 h4 h5 (by omega) hw) rfl) rfl rfl ?_; rintro _ _ ⟨_, ⟨rfl, rfl⟩, rfl⟩
  repeat' (first | refine Wka ?_ | intro _ | apply And.intro)
  refine J_draw [0, 0, 0, 1, 0, 0, 0, 1, 0, 0] (List.range 10) (by kernel_rfl) (by kernel_rfl) ?_
  repeat' (first | refine Wkd ?_ | intro _ | apply And.intro)
  repeat' (first | refine Wka ?_ | intro _ | apply And.intro)
  refine JO_l (OL_call [0] rfl rfl rfl (end_ok) rfl) rfl rfl ?_; rintro _ _ ⟨_, ⟨rfl, rfl⟩, rfl⟩
  repeat' (first | refine Wka ?_ | intro _ | apply And.intro)
  exact At_end rfl rfl .nil rfl (is := [0, 0, 0]) rfl ⟨rfl, rfl⟩
set_option maxHeartbeats 2000000 in
theorem popTop_next {b t word fault : Int} {q : Nat} (hw : ws[1]? = some (q : Int)) (h1 : ws.length = room + 2) (h3 : room ≤ 1024) (h4 : 0 ≤ who) (h5 : who < 64) (hn : b ≤ ((q : Int) % 4096)) : Does Tryz.prog 190 [ptr c 0] (dcL c p who (nx 190) b t word fault :: deqZ p pc bw ws room)
    (fun v l => v = .tuple #[] ∧ l = dcL c p who (nx 197) b q word fault :: deqZ p pc bw ws room) := by
  refine Does.of tiok Tryz.func190 (by kernel_rfl) rfl Tryz.ntmps190 rfl ?_
  intro W fr
  repeat' (first | refine Wka ?_ | intro _ | apply And.intro)
  refine JO_l (OL_call [0, 0, 0] rfl rfl rfl (loadD 1 h1 h3 h4 h5 (by omega) hw) rfl) rfl rfl ?_; rintro _ _ ⟨_, ⟨rfl, rfl⟩, rfl⟩
  repeat' (first | refine Wka ?_ | intro _ | apply And.intro)
  refine J_draw [0, 0, 0, 1, 0, 0, 0, 1, 0, 0] (List.range 10) (by kernel_rfl) (by kernel_rfl) ?_
  repeat' (first | refine Wkd ?_ | intro _ | apply And.intro)
  repeat' (first | refine Wka ?_ | intro _ | apply And.intro)
  exact At_end rfl rfl .nil rfl (is := [0, 0, 0]) rfl ⟨rfl, rfl⟩
set_option maxHeartbeats 2000000 in
theorem popNone_eq {b word fault : Int} {q : Nat} (h1 : ws.length = room + 2) (h3 : room ≤ 1024) (h4 : 0 ≤ who) (h5 : who < 64) (hn : b = ((q : Int) % 4096)) : Does Tryz.prog 197 [ptr c 0] (dcL c p who (nx 197) b q word fault :: deqZ p pc bw ws room)
    (fun v l => v = .tuple #[] ∧ l = dcL c p who (nx 203) b q word fault :: deqZ p pc bw (ws.set 0 0) room) := by
  obtain ⟨was, hwas⟩ : ∃ u, ws[0]? = some u := ⟨ws[0]'(by omega), List.getElem?_eq_getElem _⟩
  refine Does.of tiok Tryz.func197 (by kernel_rfl) rfl Tryz.ntmps197 rfl ?_
  intro W fr
  repeat' (first | refine Wka ?_ | intro _ | apply And.intro)
  refine J_draw [0, 0, 0, 1, 0, 0, 1, 0, 0, 0, 1, 2] (List.range 12) (by kernel_rfl) (by kernel_rfl) ?_
  repeat' (first | refine Wkd ?_ | intro _ | apply And.intro)
  refine JX_l rfl rfl (OL_call [2] rfl rfl rfl (Store_z who 0 0 h4 h5 (by omega) (by omega)) rfl) rfl rfl ?_
  rintro _ _ ⟨_, ⟨rfl, rfl⟩, rfl⟩
  repeat' (first | refine Wkd ?_ | intro _ | apply And.intro)
  repeat' (first | refine Wka ?_ | intro _ | apply And.intro)
  refine J_draw [0, 0, 0, 1, 0, 0, 0, 1, 0, 0] (List.range 10) (by kernel_rfl) (by kernel_rfl) ?_
  repeat' (first | refine Wkd ?_ | intro _ | apply And.intro)
  repeat' (first | refine Wka ?_ | intro _ | apply And.intro)
  exact At_end rfl rfl .nil rfl (is := [0, 1, 0]) rfl ⟨rfl, rfl⟩
set_option maxHeartbeats 2000000 in
theorem popNone_ne {b word fault : Int} {q : Nat} (h1 : ws.length = room + 2) (h3 : room ≤ 1024) (h4 : 0 ≤ who) (h5 : who < 64) (hn : b ≠ ((q : Int) % 4096)) : Does Tryz.prog 197 [ptr c 0] (dcL c p who (nx 197) b q word fault :: deqZ p pc bw ws room)
    (fun v l => v = .tuple #[] ∧ l = dcL c p who (nx 204) b q word fault :: deqZ p pc bw (ws.set 0 0) room) := by
  obtain ⟨was, hwas⟩ : ∃ u, ws[0]? = some u := ⟨ws[0]'(by omega), List.getElem?_eq_getElem _⟩
  refine Does.of tiok Tryz.func197 (by kernel_rfl) rfl Tryz.ntmps197 rfl ?_
  intro W fr
  repeat' (first | refine Wka ?_ | intro _ | apply And.intro)
  refine J_draw [0, 0, 0, 1, 0, 0, 1, 0, 0, 0, 1, 2] (List.range 12) (by kernel_rfl) (by kernel_rfl) ?_
  repeat' (first | refine Wkd ?_ | intro _ | apply And.intro)
  refine JX_l rfl rfl (OL_call [2] rfl rfl rfl (Store_z who 0 0 h4 h5 (by omega) (by omega)) rfl) rfl rfl ?_
  rintro _ _ ⟨_, ⟨rfl, rfl⟩, rfl⟩
  repeat' (first | refine Wkd ?_ | intro _ | apply And.intro)
  repeat' (first | refine Wka ?_ | intro _ | apply And.intro)
  refine J_draw [0, 0, 0, 1, 0, 0, 0, 1, 0, 0] (List.range 10) (by kernel_rfl) (by kernel_rfl) ?_
  repeat' (first | refine Wkd ?_ | intro _ | apply And.intro)
  repeat' (first | refine Wka ?_ | intro _ | apply And.intro)
  exact At_end rfl rfl .nil rfl (is := [0, 1, 0]) rfl ⟨rfl, rfl⟩
set_option maxHeartbeats 2000000 in
theorem popLast_ok {b word fault : Int} {q : Nat} (hq : q < 10000000000000000) (hw : ws[1]? = some (q : Int)) (h1 : ws.length = room + 2) (h3 : room ≤ 1024) (h4 : 0 ≤ who) (h5 : who < 64) : Does Tryz.prog 203 [ptr c 0] (dcL c p who (nx 203) b q word fault :: deqZ p pc bw ws room)
    (fun v l => v = .tuple #[] ∧ l = dcL c p who Value.nilFunc b q word 0 :: deqZ p pc bw (ws.set 1 (((q : Int) / 4096 + 1) * 4096)) room) := by
  refine Does.of tiok Tryz.func203 (by kernel_rfl) rfl Tryz.ntmps203 rfl ?_
  intro W fr
  repeat' (first | refine Wka ?_ | intro _ | apply And.intro)
  refine J_draw [0, 0, 0, 1, 0, 0, 1, 0, 0, 0, 1, 0, 0, 0, 1, 0, 1, 2, 0] (List.range 19) (by kernel_rfl) (by kernel_rfl) ?_
  repeat' (first | refine Wkd ?_ | intro _ | apply And.intro)
  refine JX_q rfl rfl (OQ_call [0] rfl rfl rfl (fresh_spec q hq) rfl (by rintro _ _ ⟨rfl, rfl⟩; exact ⟨rfl, fun _ h => h⟩)) rfl rfl ?_
  have hsw := Swap_z (p := pc) (bw := bw) (ws := ws) who q q (((q : Int) / 4096 + 1) * 4096) 1 h4 h5 (by omega) hw (by omega)
  simp only [if_true] at hsw
  refine JX_l rfl rfl (OL_call [2] rfl rfl rfl hsw rfl) rfl rfl ?_
  rintro _ _ ⟨_, ⟨rfl, rfl⟩, rfl⟩
  repeat' (first | refine Wkd ?_ | intro _ | apply And.intro)
  repeat' (first | refine Wka ?_ | intro _ | apply And.intro)
  refine JO_l (OL_call [1] rfl rfl rfl (end_ok) rfl) rfl rfl ?_; rintro _ _ ⟨_, ⟨rfl, rfl⟩, rfl⟩
  repeat' (first | refine Wka ?_ | intro _ | apply And.intro)
  exact At_end rfl rfl .nil rfl (is := [0, 1, 0]) rfl ⟨rfl, rfl⟩
set_option maxHeartbeats 2000000 in
theorem popLast_lost {b word fault was : Int} {q : Nat} (hq : q < 10000000000000000) (hw : ws[1]? = some was) (hne : was ≠ q) (h1 : ws.length = room + 2) (h3 : room ≤ 1024) (h4 : 0 ≤ who) (h5 : who < 64) : Does Tryz.prog 203 [ptr c 0] (dcL c p who (nx 203) b q word fault :: deqZ p pc bw ws room)
    (fun v l => v = .tuple #[] ∧ l = dcL c p who (nx 204) b q word fault :: deqZ p pc bw ws room) := by
  refine Does.of tiok Tryz.func203 (by kernel_rfl) rfl Tryz.ntmps203 rfl ?_
  intro W fr
  repeat' (first | refine Wka ?_ | intro _ | apply And.intro)
  refine J_draw [0, 0, 0, 1, 0, 0, 1, 0, 0, 0, 1, 0, 0, 0, 1, 0, 1, 2, 0] (List.range 19) (by kernel_rfl) (by kernel_rfl) ?_
  repeat' (first | refine Wkd ?_ | intro _ | apply And.intro)
  refine JX_q rfl rfl (OQ_call [0] rfl rfl rfl (fresh_spec q hq) rfl (by rintro _ _ ⟨rfl, rfl⟩; exact ⟨rfl, fun _ h => h⟩)) rfl rfl ?_
  have hsw := Swap_z (p := pc) (bw := bw) (ws := ws) who was q (((q : Int) / 4096 + 1) * 4096) 1 h4 h5 (by omega) hw (by omega)
  simp only [if_neg hne, setz_same hw] at hsw
  refine JX_l rfl rfl (OL_call [2] rfl rfl rfl hsw rfl) rfl rfl ?_
  rintro _ _ ⟨_, ⟨rfl, rfl⟩, rfl⟩
  repeat' (first | refine Wkd ?_ | intro _ | apply And.intro)
  repeat' (first | refine Wka ?_ | intro _ | apply And.intro)
  all_goals first | exact At_end rfl rfl .nil rfl (is := [1, 1, 0]) rfl ⟨rfl, rfl⟩ | exact At_end rfl rfl .nil rfl (is := [1, 1, 0]) rfl ⟨rfl, rfl⟩ | (rename_i hx; exact absurd (by simp) hx)
set_option maxHeartbeats 2000000 in
theorem popEnd_ok {b word fault : Int} {q : Nat} (hq : q < 10000000000000000) (h1 : ws.length = room + 2) (h3 : room ≤ 1024) (h4 : 0 ≤ who) (h5 : who < 64) : Does Tryz.prog 204 [ptr c 0] (dcL c p who (nx 204) b q word fault :: deqZ p pc bw ws room)
    (fun v l => v = .tuple #[] ∧ l = dcL c p who Value.nilFunc b q 0 7 :: deqZ p pc bw (ws.set 1 (((q : Int) / 4096 + 1) * 4096)) room) := by
  obtain ⟨was, hwas⟩ : ∃ u, ws[1]? = some u := ⟨ws[1]'(by omega), List.getElem?_eq_getElem _⟩
  refine Does.of tiok Tryz.func204 (by kernel_rfl) rfl Tryz.ntmps204 rfl ?_
  intro W fr
  repeat' (first | refine Wka ?_ | intro _ | apply And.intro)
  refine J_draw [0, 0, 0, 1, 0, 0, 1, 0, 0, 0, 1, 0, 1, 2] (List.range 14) (by kernel_rfl) (by kernel_rfl) ?_
  repeat' (first | refine Wkd ?_ | intro _ | apply And.intro)
  refine JX_q rfl rfl (OQ_call [0] rfl rfl rfl (fresh_spec q hq) rfl (by rintro _ _ ⟨rfl, rfl⟩; exact ⟨rfl, fun _ h => h⟩)) rfl rfl ?_
  refine JX_l rfl rfl (OL_call [2] rfl rfl rfl (Store_z who (((q : Int) / 4096 + 1) * 4096) 1 h4 h5 (by omega) (by omega)) rfl) rfl rfl ?_
  rintro _ _ ⟨_, ⟨rfl, rfl⟩, rfl⟩
  repeat' (first | refine Wkd ?_ | intro _ | apply And.intro)
  repeat' (first | refine Wka ?_ | intro _ | apply And.intro)
  refine JO_l (OL_call [1] rfl rfl rfl (end_err 7 (by decide)) rfl) rfl rfl ?_; rintro _ _ ⟨_, ⟨rfl, rfl⟩, rfl⟩
  repeat' (first | refine Wka ?_ | intro _ | apply And.intro)
  exact At_end rfl rfl .nil rfl (is := [0, 1, 0]) rfl ⟨rfl, rfl⟩
set_option maxHeartbeats 2000000 in
theorem stealTop_ok {b t word fault : Int} {q : Nat} (hw : ws[1]? = some (q : Int)) (h1 : ws.length = room + 2) (h3 : room ≤ 1024) (h4 : 0 ≤ who) (h5 : who < 64) : Does Tryz.prog 167 [ptr c 0] (dcL c p who (nx 167) b t word fault :: deqZ p pc bw ws room)
    (fun v l => v = .tuple #[] ∧ l = dcL c p who (nx 184) b q word fault :: deqZ p pc bw ws room) := by
  refine Does.of tiok Tryz.func167 (by kernel_rfl) rfl Tryz.ntmps167 rfl ?_
  intro W fr
  repeat' (first | refine Wka ?_ | intro _ | apply And.intro)
  refine JO_l (OL_call [0, 0, 0] rfl rfl rfl (loadD 1 h1 h3 h4 h5 (by omega) hw) rfl) rfl rfl ?_; rintro _ _ ⟨_, ⟨rfl, rfl⟩, rfl⟩
  repeat' (first | refine Wka ?_ | intro _ | apply And.intro)
  exact At_end rfl rfl .nil rfl (is := [0, 0, 0]) rfl ⟨rfl, rfl⟩
set_option maxHeartbeats 2000000 in
theorem stealBottom_ok {b word fault : Int} {q m : Nat} (hw : ws[0]? = some (m : Int)) (h1 : ws.length = room + 2) (h3 : room ≤ 1024) (h4 : 0 ≤ who) (h5 : who < 64) (hn : ((q : Int) % 4096) < m) : Does Tryz.prog 184 [ptr c 0] (dcL c p who (nx 184) b q word fault :: deqZ p pc bw ws room)
    (fun v l => v = .tuple #[] ∧ l = dcL c p who (nx 194) b q word fault :: deqZ p pc bw ws room) := by
  refine Does.of tiok Tryz.func184 (by kernel_rfl) rfl Tryz.ntmps184 rfl ?_
  intro W fr
  repeat' (first | refine Wka ?_ | intro _ | apply And.intro)
  refine J_drawk [dcL c p who (nx 194) b q word fault] (fun H hl => (hl.perm (picks_perm (is := [0]) rfl)).left) [0, 2, 0, 0, 0, 5, 0, 0] [0, 2, 3, 4, 5, 6, 1, 7] (by kernel_rfl) (by kernel_rfl) ?_
  repeat' (first | refine Wkd ?_ | intro _ | apply And.intro)
  refine JX_lk rfl rfl (OL_call [0, 0, 0] rfl rfl rfl (loadD 0 h1 h3 h4 h5 (by omega) hw) rfl) rfl rfl ?_ ?_
  · rintro _ _ ⟨_, ⟨_, _, _, rfl⟩, rfl⟩ H hl
    exact (hl.perm (picks_perm (is := [0]) rfl)).left
  rintro _ _ ⟨_, ⟨rfl, rfl⟩, rfl⟩ _
  repeat' (first | refine Wkd ?_ | intro _ | apply And.intro)
  repeat' (first | refine Wka ?_ | intro _ | apply And.intro)
  exact At_end rfl rfl .nil rfl (is := [0, 0, 0]) rfl ⟨rfl, rfl⟩
set_option maxHeartbeats 2000000 in
theorem stealBottom_empty {b word fault : Int} {q m : Nat} (hw : ws[0]? = some (m : Int)) (h1 : ws.length = room + 2) (h3 : room ≤ 1024) (h4 : 0 ≤ who) (h5 : who < 64) (hn : (m : Int) ≤ ((q : Int) % 4096)) : Does Tryz.prog 184 [ptr c 0] (dcL c p who (nx 184) b q word fault :: deqZ p pc bw ws room)
    (fun v l => v = .tuple #[] ∧ l = dcL c p who Value.nilFunc b q 0 7 :: deqZ p pc bw ws room) := by
  refine Does.of tiok Tryz.func184 (by kernel_rfl) rfl Tryz.ntmps184 rfl ?_
  intro W fr
  repeat' (first | refine Wka ?_ | intro _ | apply And.intro)
  refine J_drawk [dcL c p who (nx 194) b q word fault] (fun H hl => (hl.perm (picks_perm (is := [0]) rfl)).left) [0, 2, 0, 0, 0, 5, 0, 0] [0, 2, 3, 4, 5, 6, 1, 7] (by kernel_rfl) (by kernel_rfl) ?_
  repeat' (first | refine Wkd ?_ | intro _ | apply And.intro)
  refine JX_lk rfl rfl (OL_call [0, 0, 0] rfl rfl rfl (loadD 0 h1 h3 h4 h5 (by omega) hw) rfl) rfl rfl ?_ ?_
  · rintro _ _ ⟨_, ⟨_, _, _, rfl⟩, rfl⟩ H hl
    exact (hl.perm (picks_perm (is := [0]) rfl)).left
  rintro _ _ ⟨_, ⟨rfl, rfl⟩, rfl⟩ _
  repeat' (first | refine Wkd ?_ | intro _ | apply And.intro)
  repeat' (first | refine Wka ?_ | intro _ | apply And.intro)
  refine JO_l (OL_call [0] rfl rfl rfl (end_err 7 (by decide)) rfl) rfl rfl ?_; rintro _ _ ⟨_, ⟨rfl, rfl⟩, rfl⟩
  repeat' (first | refine Wka ?_ | intro _ | apply And.intro)
  exact At_end rfl rfl .nil rfl (is := [0, 0, 0]) rfl ⟨rfl, rfl⟩
set_option maxHeartbeats 2000000 in
theorem stealWord_ok {b word fault was : Int} {q k : Nat} (hk : (q : Int) % 4096 = (k : Int)) (hn : k < room) (hw : ws[2 + k]? = some was) (h1 : ws.length = room + 2) (h3 : room ≤ 1024) (h4 : 0 ≤ who) (h5 : who < 64) : Does Tryz.prog 194 [ptr c 0] (dcL c p who (nx 194) b q word fault :: deqZ p pc bw ws room)
    (fun v l => v = .tuple #[] ∧ l = dcL c p who (nx 202) b q was fault :: deqZ p pc bw ws room) := by
  refine Does.of tiok Tryz.func194 (by kernel_rfl) rfl Tryz.ntmps194 rfl ?_
  intro W fr
  repeat' (first | refine Wka ?_ | intro _ | apply And.intro)
  rw [show (2 + (q : Int) % 4096) = ((2 + k : Nat) : Int) by omega]
  refine JO_l (OL_call [0, 0, 0] rfl rfl rfl (loadD (2 + k) h1 h3 h4 h5 (by omega) hw) rfl) rfl rfl ?_; rintro _ _ ⟨_, ⟨rfl, rfl⟩, rfl⟩
  repeat' (first | refine Wka ?_ | intro _ | apply And.intro)
  exact At_end rfl rfl .nil rfl (is := [0, 0, 0]) rfl ⟨rfl, rfl⟩
set_option maxHeartbeats 2000000 in
theorem stealEnd_ok {b word fault : Int} {q : Nat} (hq : q < 10000000000000000) (hw : ws[1]? = some (q : Int)) (h1 : ws.length = room + 2) (h3 : room ≤ 1024) (h4 : 0 ≤ who) (h5 : who < 64) : Does Tryz.prog 202 [ptr c 0] (dcL c p who (nx 202) b q word fault :: deqZ p pc bw ws room)
    (fun v l => v = .tuple #[] ∧ l = dcL c p who Value.nilFunc b q word 0 :: deqZ p pc bw (ws.set 1 ((q : Int) + 1)) room) := by
  refine Does.of tiok Tryz.func202 (by kernel_rfl) rfl Tryz.ntmps202 rfl ?_
  intro W fr
  repeat' (first | refine Wka ?_ | intro _ | apply And.intro)
  refine J_draw [0, 0, 0, 0, 1, 0, 0, 1, 0, 0, 0, 1, 0, 0, 0, 1, 0, 0, 0, 1, 0, 2, 2] (List.range 23) (by kernel_rfl) (by kernel_rfl) ?_
  repeat' (first | refine Wkd ?_ | intro _ | apply And.intro)
  have hsw := Swap_z (p := pc) (bw := bw) (ws := ws) who q q ((q : Int) + 1) 1 h4 h5 (by omega) hw (by omega)
  simp only [if_true] at hsw
  refine JX_l rfl rfl (OL_call [2] rfl rfl rfl hsw rfl) rfl rfl ?_
  rintro _ _ ⟨_, ⟨rfl, rfl⟩, rfl⟩
  refine JX_l rfl rfl (OL_call [1] rfl rfl rfl (end_ok) rfl) rfl rfl ?_
  rintro _ _ ⟨_, ⟨rfl, rfl⟩, rfl⟩
  repeat' (first | refine Wkd ?_ | intro _ | apply And.intro)
  repeat' (first | refine Wka ?_ | intro _ | apply And.intro)
  exact At_end rfl rfl .nil rfl (is := [0, 1, 0]) rfl ⟨rfl, rfl⟩
set_option maxHeartbeats 2000000 in
theorem stealEnd_lost {b word fault was : Int} {q : Nat} (hq : q < 10000000000000000) (hw : ws[1]? = some was) (hne : was ≠ q) (h1 : ws.length = room + 2) (h3 : room ≤ 1024) (h4 : 0 ≤ who) (h5 : who < 64) : Does Tryz.prog 202 [ptr c 0] (dcL c p who (nx 202) b q word fault :: deqZ p pc bw ws room)
    (fun v l => v = .tuple #[] ∧ l = dcL c p who Value.nilFunc b q 0 8 :: deqZ p pc bw ws room) := by
  refine Does.of tiok Tryz.func202 (by kernel_rfl) rfl Tryz.ntmps202 rfl ?_
  intro W fr
  repeat' (first | refine Wka ?_ | intro _ | apply And.intro)
  refine J_draw [0, 0, 0, 0, 1, 0, 0, 1, 0, 0, 0, 1, 0, 0, 0, 1, 0, 0, 0, 1, 0, 2, 2] (List.range 23) (by kernel_rfl) (by kernel_rfl) ?_
  repeat' (first | refine Wkd ?_ | intro _ | apply And.intro)
  have hsw := Swap_z (p := pc) (bw := bw) (ws := ws) who was q ((q : Int) + 1) 1 h4 h5 (by omega) hw (by omega)
  simp only [if_neg hne, setz_same hw] at hsw
  refine JX_l rfl rfl (OL_call [2] rfl rfl rfl hsw rfl) rfl rfl ?_
  rintro _ _ ⟨_, ⟨rfl, rfl⟩, rfl⟩
  refine JX_l rfl rfl (OL_call [1] rfl rfl rfl (end_err 8 (by decide)) rfl) rfl rfl ?_
  rintro _ _ ⟨_, ⟨rfl, rfl⟩, rfl⟩
  repeat' (first | refine Wkd ?_ | intro _ | apply And.intro)
  repeat' (first | refine Wka ?_ | intro _ | apply And.intro)
  exact At_end rfl rfl .nil rfl (is := [0, 1, 0]) rfl ⟨rfl, rfl⟩
set_option maxHeartbeats 2000000 in
theorem StepD_more {f f2 : FuncId} {b t word fault b' t' word' fault' : Int} {ws' : List Int} (h : Does Tryz.prog f [ptr c 0] (dcL c p who (nx f) b t word fault :: deqZ p pc bw ws room)
    (fun v l => v = .tuple #[] ∧ l = dcL c p who (nx f2) b' t' word' fault' :: deqZ p pc bw ws' room)) :
    Does Tryz.prog 229 [ptr c 0] (dcL c p who (nx f) b t word fault :: deqZ p pc bw ws room)
    (fun v l => v = .bool false ∧ l = dcL c p who (nx f2) b' t' word' fault' :: deqZ p pc bw ws' room) := by
  refine Does.of tiok Tryz.func229 (by kernel_rfl) rfl Tryz.ntmps229 rfl ?_
  intro W fr
  repeat' (first | refine Wka ?_ | intro _ | apply And.intro)
  refine JO_l (OL_call [0, 0, 0] rfl rfl rfl (h) rfl) rfl rfl ?_; rintro _ _ ⟨_, ⟨rfl, rfl⟩, rfl⟩
  repeat' (first | refine Wka ?_ | intro _ | apply And.intro)
  refine JO_l (OL_call [0] rfl rfl rfl (DoneD_f) rfl) rfl rfl ?_; rintro _ _ ⟨_, ⟨rfl, rfl⟩, rfl⟩
  repeat' (first | refine Wka ?_ | intro _ | apply And.intro)
  exact At_ret rfl rfl (.tmp rfl .nil) rfl (is := [0, 0, 0]) rfl ⟨rfl, rfl⟩
set_option maxHeartbeats 2000000 in
theorem StepD_end {f : FuncId} {b t word fault b' t' word' fault' : Int} {ws' : List Int} (h : Does Tryz.prog f [ptr c 0] (dcL c p who (nx f) b t word fault :: deqZ p pc bw ws room)
    (fun v l => v = .tuple #[] ∧ l = dcL c p who Value.nilFunc b' t' word' fault' :: deqZ p pc bw ws' room)) :
    Does Tryz.prog 229 [ptr c 0] (dcL c p who (nx f) b t word fault :: deqZ p pc bw ws room)
    (fun v l => v = .bool true ∧ l = dcL c p who Value.nilFunc b' t' word' fault' :: deqZ p pc bw ws' room) := by
  refine Does.of tiok Tryz.func229 (by kernel_rfl) rfl Tryz.ntmps229 rfl ?_
  intro W fr
  repeat' (first | refine Wka ?_ | intro _ | apply And.intro)
  refine JO_l (OL_call [0, 0, 0] rfl rfl rfl (h) rfl) rfl rfl ?_; rintro _ _ ⟨_, ⟨rfl, rfl⟩, rfl⟩
  repeat' (first | refine Wka ?_ | intro _ | apply And.intro)
  refine JO_l (OL_call [0] rfl rfl rfl (DoneD_t) rfl) rfl rfl ?_; rintro _ _ ⟨_, ⟨rfl, rfl⟩, rfl⟩
  repeat' (first | refine Wka ?_ | intro _ | apply And.intro)
  exact At_ret rfl rfl (.tmp rfl .nil) rfl (is := [0, 0, 0]) rfl ⟨rfl, rfl⟩
end ops
end Go.Proofs.YtfmkjbmogfhpbaaGreatDoor
set_option maxRecDepth 8000
namespace Go.Proofs.YtfmkjbmogfhpbaaGreatDoor.Rt
open Go.Sep
abbrev rootsZ (p pc bw : Nat) (nx : Int) (ar : Option Addr) (cr : Nat) (rs : List Int) (part : Int) : List HP := [blk p [.slice ar rs.length cr, ptr pc 0, .int .i64 part] 136, row 3 1 ar rs.length cr (intsV rs), cellsZ pc bw [nx]]
def partOf (k : Int) : Int := if 64 < (if k < 1 then 1 else k) then 64 else (if k < 1 then 1 else k)
theorem CellsClear_z {p bw : Nat} {ws : List Int} : Does Tryz.prog 106 [ptr p 0] [cellsZ p bw ws] (fun v l => v = .tuple #[] ∧ l = [cellsZ p bw ws]) :=
  Does.exP (CellsClear_spec (p := p) (bw := bw) (a := none) (cap := 0) (ws := ws) (lg := [])).1 fun x hx => by
    rw [List.append_nil]
    exact CellsClear_spec.post fun v l => by
      rintro ⟨rfl, rfl⟩
      exact ⟨_, ⟨rfl, rfl⟩, fun H hs => cellsZ_in (lg := []) (by decide) (by rwa [List.append_nil])⟩
section ops
variable {p pc bw : Nat} {nx : Int} {ar : Option Addr} {cr : Nat} {rs : List Int} {part : Int}
theorem rootsNew (k : Int) : Does Tryz.prog 31 [.int .i64 k] [] (fun v l => ∃ p pc bw, v = ptr p 0 ∧ l = rootsZ p pc bw 0 none 0 [] (partOf k)) := by
  refine Does.of tiok Tryz.func31 (by kernel_rfl) rfl Tryz.ntmps31 rfl ?_
  intro W fr
  repeat' (first | refine Wka ?_ | intro _ | apply And.intro)
  refine JO_l (OL_call [] rfl rfl rfl (cellNew_ok 1 (by decide) (by decide)) rfl) rfl rfl ?_; rintro _ _ ⟨_, ⟨pc, bw, rfl, rfl⟩, rfl⟩
  refine JO_hp (l' := [cellsZ pc bw [0]]) (fun H hl => cellsZ_in (lg := []) (by decide) hl) ?_
  repeat' (first | refine Wka ?_ | intro _ | apply And.intro)
  rename_i p
  exact At_ret' rfl rfl (.tmp rfl .nil) rfl (fun H hl => (row_nil hl).perm (List.Perm.swap _ _ _)) ⟨p, pc, bw, rfl, rfl⟩
set_option maxHeartbeats 1000000 in
theorem Push_ok (w : Int) (h : 0 ≤ w) (hl : rs.length < 1024) : Does Tryz.prog 32 [ptr p 0, .int .i64 w] (rootsZ p pc bw nx ar cr rs part) (fun v l => ∃ ar' cr', v = .int .i64 0 ∧ l = rootsZ p pc bw nx ar' cr' (rs ++ [w]) part) := by
  refine Does.of tiok Tryz.func32 (by kernel_rfl) rfl Tryz.ntmps32 rfl ?_
  intro W fr
  repeat' (first | refine Wka ?_ | intro _ | apply And.intro)
  refine JO_l (OL_buildSlice (cs := [.int .i64 w]) rfl rfl rfl rfl rfl rfl rfl rfl) rfl rfl ?_
  rintro _ _ ⟨b, rfl, rfl⟩
  refine JO_l (OL_append rfl rfl rfl rfl rfl P2 ((Reads.blk rfl).src (.head _)) rfl rfl (fun _ h => by cases h) (by omega) (by omega) (by decide)) rfl rfl ?_
  rintro _ _ ⟨ar', cr', rfl, rfl⟩
  repeat' (first | refine Wka ?_ | intro _ | apply And.intro)
  exact At_ret rfl rfl (.tmp rfl .nil) rfl (is := [0, 0, 1]) rfl ⟨ar', cr', rfl, by simp only [rootsZ, intsV, List.map_append, List.length_append, List.length_singleton]; rfl⟩
set_option maxHeartbeats 1000000 in
theorem Get_ok (i : Nat) (w : Int) (h : i < rs.length) (hw : rs[i]? = some w) : Does Tryz.prog 95 [ptr p 0, .int .i64 i] (rootsZ p pc bw nx ar cr rs part) (fun v l => v = .tuple #[.int .i64 w, .int .i64 0] ∧ l = rootsZ p pc bw nx ar cr rs part) := by
  refine Does.of tiok Tryz.func95 (by kernel_rfl) rfl Tryz.ntmps95 rfl ?_
  intro W fr
  refine J_row (i := 1) P1 fun hr => ?_
  have hR := Reads.row (T := 3) hr.1 hr.2.1
  refine J_fact _ (fun w hs => hR.some (by omega) hs (.tail _ (.head _))) ?_
  rintro ⟨b, o, rfl⟩
  repeat' (first | refine Wka ?_ | intro _ | apply And.intro)
  refine JO_val (OV_idx (off := o + i) rfl rfl rfl rfl (by omega) (by omega) (by omega)) rfl rfl ?_
  refine JO_q (OQ_read (v := .int .i64 w) hR (.tail _ (.head _)) rfl rfl (by omega) (by simp [intsV, hw])) rfl rfl ?_
  repeat' (first | refine Wka ?_ | intro _ | apply And.intro)
  exact At_ret rfl rfl (.tmp rfl (.tmp rfl .nil)) rfl (is := [0, 0, 0]) rfl ⟨rfl, rfl⟩
theorem rootsAll (hl : rs.length ≤ 1024) : Does Tryz.prog 34 [ptr p 0] (rootsZ p pc bw nx ar cr rs part)
    (fun v l => ∃ a' cap', (a' = none → rs.length = 0 ∧ cap' = 0) ∧ v = .slice a' rs.length cap' ∧ l = row 3 1 a' rs.length cap' (intsV rs) :: rootsZ p pc bw nx ar cr rs part) := by
  refine Does.of tiok Tryz.func34 (by kernel_rfl) rfl Tryz.ntmps34 rfl ?_
  intro W fr
  refine J_row (i := 1) P1 fun hr => ?_
  repeat' (first | refine Wka ?_ | intro _ | apply And.intro)
  refine JO_l (OL_call [1] rfl rfl rfl (CloneI_spec (Reads.row hr.1 hr.2.1) (plainL_ints rs) (by omega)) rfl) rfl rfl ?_
  rintro _ _ ⟨_, ⟨a', cap', hn, rfl, rfl⟩, rfl⟩
  repeat' (first | refine Wka ?_ | intro _ | apply And.intro)
  exact At_ret rfl rfl (.tmp rfl .nil) rfl (is := [0, 1, 0, 0]) rfl ⟨a', cap', hn, rfl, rfl⟩
theorem Open_spec : Does Tryz.prog 73 [ptr p 0] (rootsZ p pc bw nx ar cr rs part) (fun v l => v = .tuple #[] ∧ l = rootsZ p pc bw 0 ar cr rs part) := by
  refine Does.of tiok Tryz.func73 (by kernel_rfl) rfl Tryz.ntmps73 rfl ?_
  intro W fr
  repeat' (first | refine Wka ?_ | intro _ | apply And.intro)
  refine JO_l (OL_call [2] rfl rfl rfl (Store_z 0 0 0 (by decide) (by decide) (by simp) (by simp)) rfl) rfl rfl ?_
  rintro _ _ ⟨_, ⟨rfl, rfl⟩, rfl⟩
  repeat' (first | refine Wka ?_ | intro _ | apply And.intro)
  refine JO_l (OL_call [0] rfl rfl rfl (CellsClear_z) rfl) rfl rfl ?_; rintro _ _ ⟨_, ⟨rfl, rfl⟩, rfl⟩
  repeat' (first | refine Wka ?_ | intro _ | apply And.intro)
  exact At_end rfl rfl .nil rfl (is := [1, 1, 0]) rfl ⟨rfl, rfl⟩
theorem Claim_empty (who : Int) (n : Int) (h1 : 0 ≤ who) (h2 : who < 64) (hn : 0 ≤ n) (hn2 : n ≤ 1000000000000) (hp1 : 1 ≤ part) (hp2 : part ≤ 64) (he : (rs.length : Int) ≤ n * part) :
    Does Tryz.prog 102 [ptr p 0, .int .i64 who] (rootsZ p pc bw n ar cr rs part)
    (fun v l => v = .tuple #[.int .i64 0, .int .i64 0, .int .i64 7] ∧ l = rootsZ p pc bw (n + 1) ar cr rs part) := by
  refine Does.of tiok Tryz.func102 (by kernel_rfl) rfl Tryz.ntmps102 rfl ?_
  intro W fr
  have hm0 : 0 ≤ n * part := Int.mul_nonneg hn (by omega)
  have hm1 : n * part ≤ 1000000000000 * 64 := Int.mul_le_mul hn2 hp2 (by omega) (by omega)
  have hw : IntKind.wrap .i64 (n + 1) = n + 1 := wrap_id (by omega) (by omega)
  repeat' (first | refine Wka ?_ | intro _ | apply And.intro)
  refine JO_l (OL_call [2] rfl rfl rfl (Add_z who n 0 h1 h2 rfl (by simp) ⟨by omega, by omega⟩) rfl) rfl rfl ?_; rintro _ _ ⟨_, ⟨rfl, rfl⟩, rfl⟩
  repeat' (first | refine Wka ?_ | intro _ | apply And.intro)
  exact At_ret rfl rfl (.tmp rfl (.tmp rfl (.tmp rfl .nil))) rfl (is := [1, 1, 0]) rfl ⟨rfl, rfl⟩
set_option maxHeartbeats 1000000 in
theorem Claim_ok (who : Int) (n : Int) (h1 : 0 ≤ who) (h2 : who < 64) (hn : 0 ≤ n) (hn2 : n ≤ 1000000000000) (hp1 : 1 ≤ part) (hp2 : part ≤ 64) (he : n * part < (rs.length : Int)) :
    Does Tryz.prog 102 [ptr p 0, .int .i64 who] (rootsZ p pc bw n ar cr rs part)
    (fun v l => v = .tuple #[.int .i64 (n * part), .int .i64 (if (rs.length : Int) < n * part + part then rs.length else n * part + part), .int .i64 0] ∧ l = rootsZ p pc bw (n + 1) ar cr rs part) := by
  refine Does.of tiok Tryz.func102 (by kernel_rfl) rfl Tryz.ntmps102 rfl ?_
  intro W fr
  have hm0 : 0 ≤ n * part := Int.mul_nonneg hn (by omega)
  have hm1 : n * part ≤ 1000000000000 * 64 := Int.mul_le_mul hn2 hp2 (by omega) (by omega)
  have hw : IntKind.wrap .i64 (n + 1) = n + 1 := wrap_id (by omega) (by omega)
  repeat' (first | refine Wka ?_ | intro _ | apply And.intro)
  refine JO_l (OL_call [2] rfl rfl rfl (Add_z who n 0 h1 h2 rfl (by simp) ⟨by omega, by omega⟩) rfl) rfl rfl ?_; rintro _ _ ⟨_, ⟨rfl, rfl⟩, rfl⟩
  repeat' (first | refine Wka ?_ | intro _ | apply And.intro)
  refine J_draw [0, 0, 0, 0, 0, 1, 0, 0, 0, 0, 1, 0, 0, 0, 0, 0] [0, 1, 2, 3, 4, 5, 6, 7, 8, 9, 10, 11, 12, 13, 14, 15] (by kernel_rfl) (by kernel_rfl) ?_
  repeat' (first | refine Wkd ?_ | intro _ | apply And.intro)
  repeat' (first | refine Wka ?_ | intro _ | apply And.intro)
  exact At_ret rfl rfl (.tmp rfl (.tmp rfl (.tmp rfl .nil))) rfl (is := [1, 1, 0]) rfl ⟨rfl, rfl⟩
end ops
end Go.Proofs.YtfmkjbmogfhpbaaGreatDoor.Rt
set_option maxRecDepth 8000
namespace Go.Proofs.YtfmkjbmogfhpbaaGreatDoor.Of
open Go.Sep
abbrev offerZ (p pc bw bi : Nat) (cnt : Int) (idle : List Bool) : List HP := [blk p [ptr pc 0, sl bi idle.length] 208, blk bi (boolsV idle) 4, cellsZ pc bw [cnt]]
section ops
variable {p pc bw bi : Nat} {cnt : Int} {idle : List Bool}
theorem offerNew_ok (n : Nat) (h0 : 1 ≤ n) (h1 : n ≤ 64) : Does Tryz.prog 70 [.int .i64 n] [] (fun v l => ∃ p pc bw bi, v = .tuple #[ptr p 0, .int .i64 0] ∧ l = offerZ p pc bw bi 0 (List.replicate n false)) := by
  refine Does.of tiok Tryz.func70 (by kernel_rfl) rfl Tryz.ntmps70 rfl ?_
  intro W fr
  repeat' (first | refine Wka ?_ | intro _ | apply And.intro)
  refine JO_l (OL_call [] rfl rfl rfl (cellNew_ok 1 (by decide) (by decide)) rfl) rfl rfl ?_; rintro _ _ ⟨_, ⟨pc, bw, rfl, rfl⟩, rfl⟩
  refine JO_hp (l' := [cellsZ pc bw [0]]) (fun H hl => cellsZ_in (lg := []) (by decide) hl) ?_
  repeat' (first | refine Wka ?_ | intro _ | apply And.intro)
  refine JO_l (OL_make rfl rfl rfl rfl (by omega) (by omega) (by omega)) rfl rfl ?_
  rintro _ _ ⟨bi, rfl, rfl⟩
  rw [Int.toNat_natCast]
  repeat' (first | refine Wka ?_ | intro _ | apply And.intro)
  rename_i p
  refine At_ret' rfl rfl (.tmp rfl (.tmp rfl .nil)) rfl (fun H hl => ?_) ⟨p, pc, bw, bi, rfl, rfl⟩
  have e : offerZ p pc bw bi 0 (List.replicate n false) = [blk p [ptr pc 0, sl bi n] 208, blk bi (List.replicate n (.bool false)) 4, cellsZ pc bw [0]] := by simp [offerZ, boolsV]
  rw [e]
  exact hl
theorem offerIs (who : Int) : Does Tryz.prog 191 [ptr p 0, .int .i64 who] (offerZ p pc bw bi cnt idle) (fun v l => v = .bool (decide (0 ≤ who ∧ who < idle.length)) ∧ l = offerZ p pc bw bi cnt idle) := by
  refine Does.of tiok Tryz.func191 (by kernel_rfl) rfl Tryz.ntmps191 rfl ?_
  intro W fr
  repeat' (first | refine Wka ?_ | intro _ | apply And.intro)
  all_goals refine At_ret rfl rfl (.tmp rfl .nil) rfl (is := [0, 0, 0]) rfl ⟨?_, rfl⟩
  all_goals (refine congrArg Value.bool ?_; first | exact (decide_eq_true (by omega)).symm | exact (decide_eq_false (by omega)).symm | exact decide_eq_decide.2 (by omega))
set_option maxHeartbeats 1000000 in
theorem Offer_ok (i : Nat) (h : i < idle.length) (hi : idle[i]? = some false) (hn : idle.length ≤ 64) (hc : 0 ≤ cnt) (hc2 : cnt ≤ 1000000) : Does Tryz.prog 182 [ptr p 0, .int .i64 i] (offerZ p pc bw bi cnt idle)
    (fun v l => v = .tuple #[.bool (decide (cnt + 1 = idle.length)), .int .i64 0] ∧ l = offerZ p pc bw bi (cnt + 1) (idle.set i true)) := by
  refine Does.of tiok Tryz.func182 (by kernel_rfl) rfl Tryz.ntmps182 rfl ?_
  intro W fr
  have hw : IntKind.wrap .i64 (cnt + 1) = cnt + 1 := wrap_id (by omega) (by omega)
  repeat' (first | refine Wka ?_ | intro _ | apply And.intro)
  refine JO_l (OL_call [0, 0, 0] rfl rfl rfl ((offerIs i).to (congrArg _ (decide_eq_true (by omega)))) rfl) rfl rfl ?_; rintro _ _ ⟨_, ⟨rfl, rfl⟩, rfl⟩
  repeat' (first | refine Wka ?_ | intro _ | apply And.intro)
  refine JO_val (OV_idx (off := i) rfl rfl rfl rfl (by omega) (by omega) (by simp)) rfl rfl ?_
  refine JO_q (OQ_load (v := .bool false) rfl rfl Mmt (by simp [boolsV, hi])) rfl rfl ?_
  repeat' (first | refine Wka ?_ | intro _ | apply And.intro)
  refine JO_l (OL_call [2] rfl rfl rfl (Add_z i cnt 0 (by omega) (by omega) rfl (by simp) ⟨by omega, by omega⟩) rfl) rfl rfl ?_; rintro _ _ ⟨_, ⟨rfl, rfl⟩, rfl⟩
  repeat' (first | refine Wka ?_ | intro _ | apply And.intro)
  refine JO_val (OV_idx (off := i) rfl rfl rfl rfl (by omega) (by omega) (by simp)) rfl rfl ?_
  refine JO_l0 (OL_store rfl rfl rfl rfl rfl rfl P2 (putL_bools true h)) rfl ?_
  rintro _ _ rfl
  repeat' (first | refine Wka ?_ | intro _ | apply And.intro)
  exact At_ret rfl rfl (.tmp rfl (.tmp rfl .nil)) rfl (is := [2, 0, 0]) rfl ⟨rfl, by simp only [offerZ, List.length_set]; rfl⟩
theorem Look_ok (i : Nat) (h : i < idle.length) (hn : idle.length ≤ 64) : Does Tryz.prog 192 [ptr p 0, .int .i64 i] (offerZ p pc bw bi cnt idle)
    (fun v l => v = .tuple #[.int .i64 cnt, .int .i64 0] ∧ l = offerZ p pc bw bi cnt idle) := by
  refine Does.of tiok Tryz.func192 (by kernel_rfl) rfl Tryz.ntmps192 rfl ?_
  intro W fr
  repeat' (first | refine Wka ?_ | intro _ | apply And.intro)
  refine JO_l (OL_call [0, 0, 0] rfl rfl rfl ((offerIs i).to (congrArg _ (decide_eq_true (by omega)))) rfl) rfl rfl ?_; rintro _ _ ⟨_, ⟨rfl, rfl⟩, rfl⟩
  repeat' (first | refine Wka ?_ | intro _ | apply And.intro)
  refine JO_l (OL_call [2] rfl rfl rfl (Load_z i cnt 0 (by omega) (by omega) rfl (by simp)) rfl) rfl rfl ?_; rintro _ _ ⟨_, ⟨rfl, rfl⟩, rfl⟩
  repeat' (first | refine Wka ?_ | intro _ | apply And.intro)
  exact At_ret rfl rfl (.tmp rfl (.tmp rfl .nil)) rfl (is := [1, 1, 0]) rfl ⟨rfl, rfl⟩
theorem Back_ok (i : Nat) (seen : Int) (hi : idle[i]? = some true) (hs : seen ≠ idle.length) (hs1 : -9223372036854775808 ≤ seen) (hs2 : seen ≤ 9223372036854775807) (hn : idle.length ≤ 64) :
    Does Tryz.prog 205 [ptr p 0, .int .i64 i, .int .i64 seen] (offerZ p pc bw bi cnt idle)
    (fun v l => v = .int .i64 (if cnt = seen then 0 else 8) ∧ l = offerZ p pc bw bi (if cnt = seen then IntKind.wrap .i64 (seen - 1) else cnt) (idle.set i (!decide (cnt = seen)))) := by
  have h := (List.getElem?_eq_some_iff.1 hi).1
  refine Does.of tiok Tryz.func205 (by kernel_rfl) rfl Tryz.ntmps205 rfl ?_
  intro W fr
  repeat' (first | refine Wka ?_ | intro _ | apply And.intro)
  refine JO_l (OL_call [0, 0, 0] rfl rfl rfl ((offerIs i).to (congrArg _ (decide_eq_true (by omega)))) rfl) rfl rfl ?_; rintro _ _ ⟨_, ⟨rfl, rfl⟩, rfl⟩
  repeat' (first | refine Wka ?_ | intro _ | apply And.intro)
  refine JO_val (OV_idx (off := i) rfl rfl rfl rfl (by omega) (by omega) (by simp)) rfl rfl ?_
  refine JO_q (OQ_load (v := .bool true) rfl rfl Mmt (by simp [boolsV, hi])) rfl rfl ?_
  have hsw := Swap_z (p := pc) (bw := bw) (ws := [cnt]) i cnt seen (IntKind.wrap .i64 (seen - 1)) 0 (by omega) (by omega) (by simp) rfl (by simp)
  by_cases hcs : cnt = seen
  · simp only [if_pos hcs] at hsw
    repeat' (first | refine Wka ?_ | intro _ | apply And.intro)
    refine JO_l (OL_call [2] rfl rfl rfl (hsw) rfl) rfl rfl ?_; rintro _ _ ⟨_, ⟨rfl, rfl⟩, rfl⟩
    repeat' (first | refine Wka ?_ | intro _ | apply And.intro)
    refine JO_val (OV_idx (off := i) rfl rfl rfl rfl (by omega) (by omega) (by simp)) rfl rfl ?_
    refine JO_l0 (OL_store rfl rfl rfl rfl rfl rfl P2 (putL_bools _ h)) rfl ?_
    rintro _ _ rfl
    repeat' (first | refine Wka ?_ | intro _ | apply And.intro)
    exact At_ret rfl rfl (.tmp rfl .nil) rfl (is := [2, 0, 0]) rfl ⟨by simp [hcs, retV], by simp only [offerZ, List.length_set, hcs]; rfl⟩
  · simp only [if_neg hcs] at hsw
    repeat' (first | refine Wka ?_ | intro _ | apply And.intro)
    refine JO_l (OL_call [2] rfl rfl rfl (hsw) rfl) rfl rfl ?_; rintro _ _ ⟨_, ⟨rfl, rfl⟩, rfl⟩
    repeat' (first | refine Wka ?_ | intro _ | apply And.intro)
    refine JO_val (OV_idx (off := i) rfl rfl rfl rfl (by omega) (by omega) (by simp)) rfl rfl ?_
    refine JO_l0 (OL_store rfl rfl rfl rfl rfl rfl P2 (putL_bools _ h)) rfl ?_
    rintro _ _ rfl
    repeat' (first | refine Wka ?_ | intro _ | apply And.intro)
    exact At_ret rfl rfl (.tmp rfl .nil) rfl (is := [2, 0, 0]) rfl ⟨by simp [hcs, retV], by simp only [offerZ, List.length_set, hcs]; rfl⟩
set_option maxHeartbeats 1000000 in
theorem Over_spec : Does Tryz.prog 109 [ptr p 0] (offerZ p pc bw bi cnt idle) (fun v l => v = .bool (decide (cnt = idle.length)) ∧ l = offerZ p pc bw bi cnt idle) := by
  refine Does.of tiok Tryz.func109 (by kernel_rfl) rfl Tryz.ntmps109 rfl ?_
  intro W fr
  repeat' (first | refine Wka ?_ | intro _ | apply And.intro)
  refine J_drawk [blk p [ptr pc 0, sl bi idle.length] 208] (fun H hl => (hl.perm (picks_perm (is := [0]) rfl)).left) [0, 0, 0, 5, 2, 0, 1, 0, 0, 0, 5, 0, 0, 0] [0, 1, 2, 3, 7, 8, 9, 10, 11, 4, 5, 6, 12, 13] (by kernel_rfl) (by kernel_rfl) ?_
  repeat' (first | refine Wkd ?_ | intro _ | apply And.intro)
  refine JX_lk rfl rfl (OL_call [2] rfl rfl rfl (CellsWords_z (by simp)) rfl) rfl rfl ?_ ?_
  · rintro _ _ ⟨_, ⟨_, _, _, _, rfl⟩, rfl⟩ H hl
    exact (hl.perm (picks_perm (is := [2]) rfl)).left
  rintro _ _ ⟨_, ⟨a', cap', hn, rfl, rfl⟩, rfl⟩ ⟨w', hw'⟩
  have hR := Reads.rowz (T := 3) (sz := 1) (m := 1) (a := a') (cap := cap') (cs := intsV [cnt]) rfl (fun e => by have := (hn e).1; simp at this)
  obtain ⟨b, o, rfl⟩ := hR.some (by decide) hw' (.head _)
  refine JX_val rfl rfl (OV_idx (off := o + 0) rfl rfl rfl rfl (by omega) (by simp) (by simp)) rfl rfl ?_
  refine JX_q rfl rfl (OQ_read (v := .int .i64 cnt) hR (.head _) rfl rfl (by omega) rfl) rfl rfl ?_
  repeat' (first | refine Wkd ?_ | intro _ | apply And.intro)
  repeat' (first | refine Wka ?_ | intro _ | apply And.intro)
  exact At_ret rfl rfl (.tmp rfl .nil) rfl (is := [2, 2, 1]) rfl ⟨rfl, rfl⟩
end ops
end Go.Proofs.YtfmkjbmogfhpbaaGreatDoor.Of
namespace Go.Proofs.YtfmkjbmogfhpbaaGreatDoor.Sp
open Go.Sep
structure SK where
  k : Nat
  on : Bool
  c : Nat
  w : Int
  s : Nat
  n : Nat
  word : Int
def PhS (rm : Nat) (x : SK) (ws P : List Int) : Prop :=
  (x.s = 2 → x.n = P.length) ∧ (x.s = 3 → x.n = P.length ∧ (0 < x.w → P.length < rm ∧ ws[2 + P.length]? = some x.w) ∧ (x.w = 0 → ∃ P0, P = P0 ++ [x.word]))
structure SHI (nc rm : Nat) (cs : List SK) (ws P : List Int) (L : Option Nat) : Prop where
  cl : cs.length = nc
  ck : ∀ (j : Nat) (x : SK), cs[j]? = some x → x.k = j
  sl : ∀ (j : Nat) (x : SK), cs[j]? = some x → x.on = true → 0 ≤ x.w ∧ (0 < x.w → x.word = x.w) ∧ (L ≠ some j → x.s = 0) ∧ (L = some j → PhS rm x ws P)
  hold : ∀ (j : Nat), L = some j → ∃ x, cs[j]? = some x ∧ x.on = true ∧ 1 ≤ x.s ∧ x.s ≤ 4
  wl : ws.length = rm + 2
  r4 : rm ≤ 65534
  pl : P.length ≤ rm
  pn : ws[1]? = some (P.length : Int)
  pa : ∀ (i : Nat), i < P.length → ws[2 + i]? = P[i]?
  lk : ws[0]? = some (match L with | none => 0 | some j => (j : Int) + 1)
theorem SHI.upd {nc rm : Nat} {cs : List SK} {ws P ws' P' : List Int} {L L' : Option Nat} {k : Nat} {x : SK} (h : SHI nc rm cs ws P L) (hx : cs[k]? = some x) (hL : L = none ∨ L = some k) (hL' : L' = none ∨ L' = some k)
    (x' : SK) (hk : x'.k = k) (hw : x'.on = true → 0 ≤ x'.w ∧ (0 < x'.w → x'.word = x'.w) ∧ (L' = none → x'.s = 0) ∧ (L' = some k → PhS rm x' ws' P'))
    (ho : L' = some k → x'.on = true ∧ 1 ≤ x'.s ∧ x'.s ≤ 4) (wl : ws'.length = rm + 2) (pl : P'.length ≤ rm) (pn : ws'[1]? = some (P'.length : Int)) (pa : ∀ i, i < P'.length → ws'[2 + i]? = P'[i]?)
    (lk : ws'[0]? = some (match L' with | none => 0 | some j => (j : Int) + 1)) : SHI nc rm (cs.set k x') ws' P' L' := by
  have hkl : k < cs.length := (List.getElem?_eq_some_iff.1 hx).1
  have hset : ∀ j y, (cs.set k x')[j]? = some y → (j = k ∧ y = x') ∨ (j ≠ k ∧ cs[j]? = some y) := by
    intro j y hy
    rw [List.getElem?_set] at hy
    by_cases e : k = j
    · rw [if_pos e, if_pos hkl] at hy
      injection hy with hy
      exact .inl ⟨e.symm, hy.symm⟩
    · rw [if_neg e] at hy
      exact .inr ⟨fun e2 => e e2.symm, hy⟩
  have hkk : (cs.set k x')[k]? = some x' := by rw [List.getElem?_set, if_pos rfl, if_pos hkl]
  refine ⟨by simp [h.cl], fun j y hy => ?_, fun j y hy hon => ?_, fun j hj => ?_, wl, h.r4, pl, pn, pa, lk⟩
  · rcases hset j y hy with ⟨rfl, rfl⟩ | ⟨_, hy⟩
    · exact hk
    · exact h.ck j y hy
  · rcases hset j y hy with ⟨rfl, rfl⟩ | ⟨hne, hy⟩
    · obtain ⟨a1, a2, a3, a4⟩ := hw hon
      exact ⟨a1, a2, fun hL2 => a3 (hL'.resolve_right hL2), a4⟩
    · obtain ⟨a1, a2, a3, a4⟩ := h.sl j y hy hon
      refine ⟨a1, a2, fun _ => a3 ?_, fun e => ?_⟩
      · rcases hL with e | e
        · rw [e]; exact fun h => by cases h
        · rw [e]; exact fun h => hne (by injection h with h; exact h.symm)
      · rcases hL' with e2 | e2
        · rw [e2] at e; cases e
        · rw [e2] at e; injection e with e; exact absurd e.symm hne
  · rcases hL' with e | e
    · rw [e] at hj; cases hj
    · rw [e] at hj; injection hj with hj; subst hj
      exact ⟨x', hkk, ho e⟩
section steps
variable {nc rm : Nat} {cs : List SK} {ws P : List Int} {L : Option Nat} {k : Nat} {x : SK}
theorem SHI.on (h : SHI nc rm cs ws P L) (hx : cs[k]? = some x) (hoff : x.on = false) (c : Nat) (w : Int) (hw : 0 ≤ w) : SHI nc rm (cs.set k ⟨k, true, c, w, 0, 0, w⟩) ws P L := by
  have hkl : k < cs.length := (List.getElem?_eq_some_iff.1 hx).1
  have hset : ∀ j y, (cs.set k (⟨k, true, c, w, 0, 0, w⟩ : SK))[j]? = some y → (j = k ∧ y = ⟨k, true, c, w, 0, 0, w⟩) ∨ (j ≠ k ∧ cs[j]? = some y) := by
    intro j y hy
    rw [List.getElem?_set] at hy
    by_cases e : k = j
    · rw [if_pos e, if_pos hkl] at hy
      injection hy with hy
      exact .inl ⟨e.symm, hy.symm⟩
    · rw [if_neg e] at hy
      exact .inr ⟨fun e2 => e e2.symm, hy⟩
  have hLk : L ≠ some k := fun e => by
    obtain ⟨y, hy, hon, _⟩ := h.hold k e
    rw [hx] at hy; injection hy with hy; rw [← hy, hoff] at hon; cases hon
  refine ⟨by simp [h.cl], fun j y hy => ?_, fun j y hy hon => ?_, fun j hj => ?_, h.wl, h.r4, h.pl, h.pn, h.pa, h.lk⟩
  · rcases hset j y hy with ⟨rfl, rfl⟩ | ⟨_, hy⟩
    · rfl
    · exact h.ck j y hy
  · rcases hset j y hy with ⟨rfl, rfl⟩ | ⟨hne, hy⟩
    · exact ⟨hw, fun _ => rfl, fun _ => rfl, fun e => absurd e hLk⟩
    · exact h.sl j y hy hon
  · obtain ⟨y, hy, hon⟩ := h.hold j hj
    refine ⟨y, ?_, hon⟩
    rw [List.getElem?_set_ne (fun e => hLk (by rw [e]; exact hj))]
    exact hy
theorem SHI.lock (h : SHI nc rm cs ws P none) (hx : cs[k]? = some x) (ho : x.on = true) : SHI nc rm (cs.set k { x with s := 1 }) (ws.set 0 ((k : Int) + 1)) P (some k) := by
  have hwl := h.wl
  obtain ⟨a1, a2, _, _⟩ := h.sl k x hx ho
  refine h.upd hx (.inl rfl) (.inr rfl) _ (h.ck k x hx) (fun _ => ⟨a1, a2, fun h => (by cases h), fun _ => ⟨fun h => (by cases h), fun h => (by cases h)⟩⟩) (fun _ => ⟨ho, Nat.le_refl _, by show 1 ≤ 4; decide⟩) (by simp [hwl]) h.pl ?_ ?_ ?_
  · rw [List.getElem?_set_ne (by decide)]; exact h.pn
  · intro i hi
    rw [List.getElem?_set_ne (by omega)]; exact h.pa i hi
  · rw [List.getElem?_set, if_pos rfl, if_pos (by omega)]
theorem SHI.look (h : SHI nc rm cs ws P (some k)) (hx : cs[k]? = some x) (ho : x.on = true) : SHI nc rm (cs.set k { x with s := 2, n := P.length }) ws P (some k) := by
  obtain ⟨a1, a2, _, _⟩ := h.sl k x hx ho
  exact h.upd hx (.inr rfl) (.inr rfl) _ (h.ck k x hx) (fun _ => ⟨a1, a2, fun h => (by cases h), fun _ => ⟨fun _ => rfl, fun h => (by cases h)⟩⟩) (fun _ => ⟨ho, by show 1 ≤ 2; decide, by show 2 ≤ 4; decide⟩) h.wl h.pl h.pn h.pa h.lk
theorem SHI.word (h : SHI nc rm cs ws P (some k)) (hx : cs[k]? = some x) (ho : x.on = true) (hs : x.s = 2) (hw : 0 < x.w) (hp : P.length < rm) : SHI nc rm (cs.set k { x with s := 3 }) (ws.set (2 + P.length) x.w) P (some k) := by
  have hwl := h.wl
  obtain ⟨a1, a2, _, a6⟩ := h.sl k x hx ho
  have hn := (a6 rfl).1 hs
  refine h.upd hx (.inr rfl) (.inr rfl) _ (h.ck k x hx) (fun _ => ⟨a1, a2, fun h => (by cases h), fun _ => ⟨fun h => (by cases h), fun _ => ⟨hn, fun _ => ⟨hp, ?_⟩, fun h0 => ?_⟩⟩⟩) (fun _ => ⟨ho, by show 1 ≤ 3; decide, by show 3 ≤ 4; decide⟩) (by simp [hwl]) h.pl ?_ ?_ ?_
  · rw [List.getElem?_set, if_pos rfl, if_pos (by omega)]
  · rw [show ({ x with s := 3 } : SK).w = x.w from rfl] at h0
    omega
  · rw [List.getElem?_set_ne (by omega)]; exact h.pn
  · intro i hi
    rw [List.getElem?_set_ne (by omega)]; exact h.pa i hi
  · rw [List.getElem?_set_ne (by omega)]; exact h.lk
theorem SHI.load {P0 : List Int} {w : Int} (h : SHI nc rm cs ws P (some k)) (hx : cs[k]? = some x) (ho : x.on = true) (hs : x.s = 2) (hw : x.w = 0) (hp : P = P0 ++ [w]) : SHI nc rm (cs.set k { x with s := 3, word := w }) ws P (some k) := by
  obtain ⟨a1, a2, _, a6⟩ := h.sl k x hx ho
  have hn := (a6 rfl).1 hs
  refine h.upd hx (.inr rfl) (.inr rfl) _ (h.ck k x hx) (fun _ => ⟨a1, fun h0 => ?_, fun h => (by cases h), fun _ => ⟨fun h => (by cases h), fun _ => ⟨hn, fun h0 => ?_, fun _ => ⟨P0, hp⟩⟩⟩⟩) (fun _ => ⟨ho, by show 1 ≤ 3; decide, by show 3 ≤ 4; decide⟩) h.wl h.pl h.pn h.pa h.lk
  · rw [show ({ x with s := 3, word := w } : SK).w = x.w from rfl] at h0
    omega
  · rw [show ({ x with s := 3, word := w } : SK).w = x.w from rfl] at h0
    omega
theorem SHI.more (h : SHI nc rm cs ws P (some k)) (hx : cs[k]? = some x) (ho : x.on = true) (hs : x.s = 3) (hw : 0 < x.w) : SHI nc rm (cs.set k { x with s := 4 }) (ws.set 1 ((P.length : Int) + 1)) (P ++ [x.w]) (some k) := by
  have hwl := h.wl
  obtain ⟨a1, a2, _, a6⟩ := h.sl k x hx ho
  obtain ⟨hn, hp, _⟩ := (a6 rfl).2 hs
  obtain ⟨hp1, hp2⟩ := hp hw
  refine h.upd hx (.inr rfl) (.inr rfl) _ (h.ck k x hx) (fun _ => ⟨a1, a2, fun h => (by cases h), fun _ => ⟨fun h => (by cases h), fun h => (by cases h)⟩⟩) (fun _ => ⟨ho, by show 1 ≤ 4; decide, Nat.le_refl _⟩) (by simp [hwl]) (by simp; omega) ?_ ?_ ?_
  · rw [List.getElem?_set, if_pos rfl, if_pos (by omega)]; simp
  · intro i hi
    rw [List.getElem?_set_ne (by omega)]
    rw [List.length_append, List.length_singleton] at hi
    by_cases e : i = P.length
    · subst e; rw [hp2]; simp
    · rw [h.pa i (by omega), List.getElem?_append_left (by omega)]
  · rw [List.getElem?_set_ne (by decide)]; exact h.lk
theorem SHI.less {P0 : List Int} (h : SHI nc rm cs ws P (some k)) (hx : cs[k]? = some x) (ho : x.on = true) (hs : x.s = 3) (hw : x.w = 0) (hp : P = P0 ++ [x.word]) : SHI nc rm (cs.set k { x with s := 4 }) (ws.set 1 ((P.length : Int) - 1)) P0 (some k) := by
  have hwl := h.wl
  have hpl := h.pl
  subst hp
  obtain ⟨a1, a2, _, a6⟩ := h.sl k x hx ho
  rw [List.length_append, List.length_singleton] at hpl ⊢
  refine h.upd hx (.inr rfl) (.inr rfl) _ (h.ck k x hx) (fun _ => ⟨a1, a2, fun h => (by cases h), fun _ => ⟨fun h => (by cases h), fun h => (by cases h)⟩⟩) (fun _ => ⟨ho, by show 1 ≤ 4; decide, Nat.le_refl _⟩) (by simp [hwl]) (by omega) ?_ ?_ ?_
  · rw [List.getElem?_set, if_pos rfl, if_pos (by omega)]; congr 1; omega
  · intro i hi
    rw [List.getElem?_set_ne (by omega), h.pa i (by simp; omega), List.getElem?_append_left hi]
  · rw [List.getElem?_set_ne (by decide)]; exact h.lk
theorem SHI.out (h : SHI nc rm cs ws P (some k)) (hx : cs[k]? = some x) : SHI nc rm (cs.set k { x with on := false }) (ws.set 0 0) P none := by
  have hwl := h.wl
  refine h.upd hx (.inr rfl) (.inl rfl) _ (h.ck k x hx) (fun h => by cases h) (fun h => by cases h) (by simp [hwl]) h.pl ?_ ?_ ?_
  · rw [List.getElem?_set_ne (by decide)]; exact h.pn
  · intro i hi
    rw [List.getElem?_set_ne (by omega)]; exact h.pa i hi
  · rw [List.getElem?_set, if_pos rfl, if_pos (by omega)]
end steps
end Go.Proofs.YtfmkjbmogfhpbaaGreatDoor.Sp
set_option maxRecDepth 8000
namespace Go.Proofs.YtfmkjbmogfhpbaaGreatDoor.Sp
open Go.Sep
structure SC where
  who : Int
  puts : Bool
  step : Int
  n : Int
  word : Int
  done : Bool
  fault : Int
abbrev spillZ (p pc bw : Nat) (ws : List Int) (room : Nat) : List HP := [blk p [ptr pc 0, .int .i64 room] 206, cellsZ pc bw ws]
abbrev scL (c p : Nat) (who : Int) (puts : Bool) (step n word : Int) (done : Bool) (fault : Int) : HP := blk c [ptr p 0, .int .i64 who, .bool puts, .int .i64 step, .int .i64 n, .int .i64 word, .bool done, .int .i64 fault] 273
abbrev callH (c p : Nat) (k : SC) : HP := scL c p k.who k.puts k.step k.n k.word k.done k.fault
section ops
variable {p pc bw c : Nat} {ws : List Int} {room : Nat} {k : SC}
theorem spillNew_ok (n : Nat) (h0 : 1 ≤ n) (h1 : n ≤ 65534) : Does Tryz.prog 69 [.int .i64 n] [] (fun v l => ∃ p pc bw, v = .tuple #[ptr p 0, .int .i64 0] ∧ l = spillZ p pc bw (List.replicate (n + 2) 0) n) := by
  refine Does.of tiok Tryz.func69 (by kernel_rfl) rfl Tryz.ntmps69 rfl ?_
  intro W fr
  repeat' (first | refine Wka ?_ | intro _ | apply And.intro)
  rw [show (2 + (n : Int)) = ((n + 2 : Nat) : Int) by omega]
  refine JO_l (OL_call [] rfl rfl rfl (cellNew_ok (n + 2) (by omega) (by omega)) rfl) rfl rfl ?_; rintro _ _ ⟨_, ⟨pc, bw, rfl, rfl⟩, rfl⟩
  refine JO_hp (l' := [cellsZ pc bw (List.replicate (n + 2) 0)]) (fun H hl => cellsZ_in (lg := []) (by decide) hl) ?_
  repeat' (first | refine Wka ?_ | intro _ | apply And.intro)
  rename_i p
  exact At_ret rfl rfl (.tmp rfl (.tmp rfl .nil)) rfl (is := [0, 0]) rfl ⟨p, pc, bw, rfl, rfl⟩
theorem begin_ok (who word : Int) (t : Bool) (h : 0 ≤ who ∧ who < 64) : Does Tryz.prog 181 [ptr p 0, .int .i64 who, .int .i64 word, .bool t] []
    (fun v l => ∃ c, v = .tuple #[ptr c 0, .int .i64 0] ∧ l = [scL c p who t 0 0 word false 0]) := by
  refine Does.of tiok Tryz.func181 (by kernel_rfl) rfl Tryz.ntmps181 rfl ?_
  intro W fr
  repeat' (first | refine Wka ?_ | intro _ | apply And.intro)
  rename_i c
  exact At_ret rfl rfl (.tmp rfl (.tmp rfl .nil)) rfl (is := [0]) rfl ⟨c, rfl, rfl⟩
theorem Put_ok (who word : Int) (h : 0 ≤ who ∧ who < 64) : Does Tryz.prog 176 [ptr p 0, .int .i64 who, .int .i64 word] [] (fun v l => ∃ c, v = .tuple #[ptr c 0, .int .i64 0] ∧ l = [scL c p who true 0 0 word false 0]) := by
  refine Does.of tiok Tryz.func176 (by kernel_rfl) rfl Tryz.ntmps176 rfl ?_
  intro W fr
  repeat' (first | refine Wka ?_ | intro _ | apply And.intro)
  refine JO_l (OL_call [] rfl rfl rfl (begin_ok who word true h) rfl) rfl rfl ?_; rintro _ _ ⟨_, ⟨c, rfl, rfl⟩, rfl⟩
  repeat' (first | refine Wka ?_ | intro _ | apply And.intro)
  exact At_ret rfl rfl (.tmp rfl (.tmp rfl .nil)) rfl (is := [0]) rfl ⟨c, rfl, rfl⟩
theorem Take_ok (who : Int) (h : 0 ≤ who ∧ who < 64) : Does Tryz.prog 165 [ptr p 0, .int .i64 who] [] (fun v l => ∃ c, v = .tuple #[ptr c 0, .int .i64 0] ∧ l = [scL c p who false 0 0 0 false 0]) := by
  refine Does.of tiok Tryz.func165 (by kernel_rfl) rfl Tryz.ntmps165 rfl ?_
  intro W fr
  repeat' (first | refine Wka ?_ | intro _ | apply And.intro)
  refine JO_l (OL_call [] rfl rfl rfl (begin_ok who 0 false h) rfl) rfl rfl ?_; rintro _ _ ⟨_, ⟨c, rfl, rfl⟩, rfl⟩
  repeat' (first | refine Wka ?_ | intro _ | apply And.intro)
  exact At_ret rfl rfl (.tmp rfl (.tmp rfl .nil)) rfl (is := [0]) rfl ⟨c, rfl, rfl⟩
theorem Cells_spec : Does Tryz.prog 198 [ptr p 0] (spillZ p pc bw ws room) (fun v l => v = ptr pc 0 ∧ l = spillZ p pc bw ws room) := by
  refine Does.of tiok Tryz.func198 (by kernel_rfl) rfl Tryz.ntmps198 rfl ?_
  intro W fr
  repeat' (first | refine Wka ?_ | intro _ | apply And.intro)
  exact At_ret rfl rfl (.tmp rfl .nil) rfl (is := [0, 0]) rfl ⟨rfl, rfl⟩
def resS (k : SC) : Int × Int := if k.done = false then (0, 9) else if k.puts = true ∨ k.fault ≠ 0 then (0, k.fault) else (k.word, 0)
set_option maxHeartbeats 1000000 in
theorem Result_spec : Does Tryz.prog 231 [ptr c 0] [callH c p k] (fun v l => v = .tuple #[.int .i64 (resS k).1, .int .i64 (resS k).2] ∧ l = [callH c p k]) := by
  obtain ⟨who, puts, step, n, word, done, fault⟩ := k
  refine Does.of tiok Tryz.func231 (by kernel_rfl) rfl Tryz.ntmps231 rfl ?_
  intro W fr
  cases done
  · repeat' (first | refine Wka ?_ | intro _ | apply And.intro)
    exact At_ret rfl rfl (.tmp rfl (.tmp rfl .nil)) rfl (is := [0]) rfl ⟨rfl, rfl⟩
  · cases puts
    · by_cases hf : fault = 0
      · subst hf
        repeat' (first | refine Wka ?_ | intro _ | apply And.intro)
        all_goals first | exact At_ret rfl rfl (.tmp rfl (.tmp rfl .nil)) rfl (is := [0]) rfl ⟨rfl, rfl⟩ | (rename_i hx; exact absurd (by simp) hx)
      · repeat' (first | refine Wka ?_ | intro _ | apply And.intro)
        refine J_draw [0, 0, 0, 1, 0, 0] (List.range 6) (by kernel_rfl) (by kernel_rfl) ?_
        repeat' (first | refine Wkd ?_ | intro _ | apply And.intro)
        repeat' (first | refine Wka ?_ | intro _ | apply And.intro)
        exact At_ret rfl rfl (.tmp rfl (.tmp rfl .nil)) rfl (is := [0]) rfl ⟨by simp [resS, hf, retV], rfl⟩
    · repeat' (first | refine Wka ?_ | intro _ | apply And.intro)
      refine J_draw [0, 0, 0, 1, 0, 0] (List.range 6) (by kernel_rfl) (by kernel_rfl) ?_
      repeat' (first | refine Wkd ?_ | intro _ | apply And.intro)
      repeat' (first | refine Wka ?_ | intro _ | apply And.intro)
      exact At_ret rfl rfl (.tmp rfl (.tmp rfl .nil)) rfl (is := [0]) rfl ⟨rfl, rfl⟩
theorem leave_spec {who step n word fault : Int} {puts done : Bool} (e : Int) (h1 : ws.length = room + 2) (h3 : room ≤ 65534) (h4 : 0 ≤ who) (h5 : who < 64) :
    Does Tryz.prog 234 [ptr c 0, .int .i64 e] (scL c p who puts step n word done fault :: spillZ p pc bw ws room)
    (fun v l => v = .tuple #[] ∧ l = scL c p who puts step n word true e :: spillZ p pc bw (ws.set 0 0) room) := by
  obtain ⟨was, hwas⟩ : ∃ u, ws[0]? = some u := ⟨ws[0]'(by omega), List.getElem?_eq_getElem _⟩
  refine Does.of tiok Tryz.func234 (by kernel_rfl) rfl Tryz.ntmps234 rfl ?_
  intro W fr
  repeat' (first | refine Wka ?_ | intro _ | apply And.intro)
  refine J_draw [0, 0, 0, 1, 0, 0, 1, 0, 0, 0, 1, 2] (List.range 12) (by kernel_rfl) (by kernel_rfl) ?_
  repeat' (first | refine Wkd ?_ | intro _ | apply And.intro)
  refine JX_l rfl rfl (OL_call [2] rfl rfl rfl (Store_z who 0 0 h4 h5 (by omega) (by omega)) rfl) rfl rfl ?_
  rintro _ _ ⟨_, ⟨rfl, rfl⟩, rfl⟩
  repeat' (first | refine Wkd ?_ | intro _ | apply And.intro)
  repeat' (first | refine Wka ?_ | intro _ | apply And.intro)
  exact At_end rfl rfl .nil rfl (is := [0, 1, 0]) rfl ⟨rfl, rfl⟩
set_option maxHeartbeats 2000000 in
theorem move_put {who step word fault : Int} {done : Bool} {m : Nat} (h1 : ws.length = room + 2) (h3 : room ≤ 65534) (h4 : 0 ≤ who) (h5 : who < 64) (hn : m < room) : Does Tryz.prog 233 [ptr c 0] (scL c p who true step m word done fault :: spillZ p pc bw ws room)
    (fun v l => v = .tuple #[] ∧ l = scL c p who true step m word done fault :: spillZ p pc bw (ws.set (2 + m) word) room) := by
  obtain ⟨was, hwas⟩ : ∃ u, ws[2 + m]? = some u := ⟨ws[2 + m]'(by omega), List.getElem?_eq_getElem _⟩
  refine Does.of tiok Tryz.func233 (by kernel_rfl) rfl Tryz.ntmps233 rfl ?_
  intro W fr
  repeat' (first | refine Wka ?_ | intro _ | apply And.intro)
  refine J_draw [0, 0, 0, 1, 0, 0, 0, 0, 1, 0, 0, 0, 1, 0, 0, 1, 0, 0, 0] (List.range 19) (by kernel_rfl) (by kernel_rfl) ?_
  repeat' (first | refine Wkd ?_ | intro _ | apply And.intro)
  repeat' (first | refine Wka ?_ | intro _ | apply And.intro)
  refine J_draw [0, 0, 0, 1, 0, 0, 1, 0, 0, 0, 1, 0, 0, 0, 1, 0, 0, 0, 0, 1, 2] (List.range 21) (by kernel_rfl) (by kernel_rfl) ?_
  repeat' (first | refine Wkd ?_ | intro _ | apply And.intro)
  rw [show (2 + (m : Int)) = ((2 + m : Nat) : Int) by omega]
  refine JX_l rfl rfl (OL_call [2] rfl rfl rfl (Store_z who word (2 + m) h4 h5 (by omega) (by omega)) rfl) rfl rfl ?_
  rintro _ _ ⟨_, ⟨rfl, rfl⟩, rfl⟩
  repeat' (first | refine Wkd ?_ | intro _ | apply And.intro)
  repeat' (first | refine Wka ?_ | intro _ | apply And.intro)
  exact At_end rfl rfl .nil rfl (is := [1, 1, 0]) rfl ⟨rfl, rfl⟩
set_option maxHeartbeats 2000000 in
theorem move_full {who step word fault : Int} {done : Bool} {m : Nat} (h1 : ws.length = room + 2) (h3 : room ≤ 65534) (h4 : 0 ≤ who) (h5 : who < 64) (hn : room ≤ m) : Does Tryz.prog 233 [ptr c 0] (scL c p who true step m word done fault :: spillZ p pc bw ws room)
    (fun v l => v = .tuple #[] ∧ l = scL c p who true step m word true 6 :: spillZ p pc bw (ws.set 0 0) room) := by
  refine Does.of tiok Tryz.func233 (by kernel_rfl) rfl Tryz.ntmps233 rfl ?_
  intro W fr
  repeat' (first | refine Wka ?_ | intro _ | apply And.intro)
  refine J_draw [0, 0, 0, 1, 0, 0, 0, 0, 1, 0, 0, 0, 1, 0, 0, 1, 0, 0, 0] (List.range 19) (by kernel_rfl) (by kernel_rfl) ?_
  repeat' (first | refine Wkd ?_ | intro _ | apply And.intro)
  repeat' (first | refine Wka ?_ | intro _ | apply And.intro)
  refine JO_l (OL_call [0, 0, 0] rfl rfl rfl (leave_spec 6 h1 h3 h4 h5) rfl) rfl rfl ?_; rintro _ _ ⟨_, ⟨rfl, rfl⟩, rfl⟩
  repeat' (first | refine Wka ?_ | intro _ | apply And.intro)
  exact At_end rfl rfl .nil rfl (is := [0, 0, 0]) rfl ⟨rfl, rfl⟩
set_option maxHeartbeats 2000000 in
theorem move_take {who step word fault : Int} {done : Bool} {m : Nat} (h1 : ws.length = room + 2) (h3 : room ≤ 65534) (h4 : 0 ≤ who) (h5 : who < 64) (hn : 0 < m) (hn2 : m ≤ room) : Does Tryz.prog 233 [ptr c 0] (scL c p who false step m word done fault :: spillZ p pc bw ws room)
    (fun v l => v = .tuple #[] ∧ l = scL c p who false step m (ws.getD (1 + m) 0) done fault :: spillZ p pc bw ws room) := by
  obtain ⟨was, hwas⟩ : ∃ u, ws[1 + m]? = some u := ⟨ws[1 + m]'(by omega), List.getElem?_eq_getElem _⟩
  have hgd : ws.getD (1 + m) 0 = was := by rw [List.getD_eq_getElem?_getD, hwas]; rfl
  rw [hgd]
  refine Does.of tiok Tryz.func233 (by kernel_rfl) rfl Tryz.ntmps233 rfl ?_
  intro W fr
  repeat' (first | refine Wka ?_ | intro _ | apply And.intro)
  refine J_draw [0, 0, 0, 1, 0, 0, 0, 0, 1, 0, 0, 0, 1, 0, 0, 1, 0, 0, 0] (List.range 19) (by kernel_rfl) (by kernel_rfl) ?_
  repeat' (first | refine Wkd ?_ | intro _ | apply And.intro)
  repeat' (first | refine Wka ?_ | intro _ | apply And.intro)
  refine J_draw [0, 0, 0, 0, 1, 0, 0, 1, 0, 0, 0, 1, 0, 0, 0, 1, 0, 0, 2, 0, 0, 0, 0, 0, 2] (List.range 25) (by kernel_rfl) (by kernel_rfl) ?_
  repeat' (first | refine Wkd ?_ | intro _ | apply And.intro)
  rw [show (2 + (m : Int) - 1) = ((1 + m : Nat) : Int) by omega]
  refine JX_l rfl rfl (OL_call [2] rfl rfl rfl (Load_z who was (1 + m) h4 h5 hwas (by omega)) rfl) rfl rfl ?_
  rintro _ _ ⟨_, ⟨rfl, rfl⟩, rfl⟩
  repeat' (first | refine Wkd ?_ | intro _ | apply And.intro)
  repeat' (first | refine Wka ?_ | intro _ | apply And.intro)
  exact At_end rfl rfl .nil rfl (is := [0, 1, 0]) rfl ⟨rfl, rfl⟩
set_option maxHeartbeats 2000000 in
theorem move_empty {who step word fault : Int} {done : Bool} {m : Nat} (h1 : ws.length = room + 2) (h3 : room ≤ 65534) (h4 : 0 ≤ who) (h5 : who < 64) (hn : m = 0) : Does Tryz.prog 233 [ptr c 0] (scL c p who false step m word done fault :: spillZ p pc bw ws room)
    (fun v l => v = .tuple #[] ∧ l = scL c p who false step m word true 7 :: spillZ p pc bw (ws.set 0 0) room) := by
  subst hn
  refine Does.of tiok Tryz.func233 (by kernel_rfl) rfl Tryz.ntmps233 rfl ?_
  intro W fr
  repeat' (first | refine Wka ?_ | intro _ | apply And.intro)
  refine J_draw [0, 0, 0, 1, 0, 0, 0, 0, 1, 0, 0, 0, 1, 0, 0, 1, 0, 0, 0] (List.range 19) (by kernel_rfl) (by kernel_rfl) ?_
  repeat' (first | refine Wkd ?_ | intro _ | apply And.intro)
  repeat' (first | refine Wka ?_ | intro _ | apply And.intro)
  refine JO_l (OL_call [0, 0, 0] rfl rfl rfl (leave_spec 7 h1 h3 h4 h5) rfl) rfl rfl ?_; rintro _ _ ⟨_, ⟨rfl, rfl⟩, rfl⟩
  repeat' (first | refine Wka ?_ | intro _ | apply And.intro)
  exact At_end rfl rfl .nil rfl (is := [0, 0, 0]) rfl ⟨rfl, rfl⟩
set_option maxHeartbeats 2000000 in
theorem Step_lock {who n word fault : Int} {puts : Bool} (h1 : ws.length = room + 2) (h3 : room ≤ 65534) (h4 : 0 ≤ who) (h5 : who < 64) (hw : ws[0]? = some 0) : Does Tryz.prog 232 [ptr c 0] (scL c p who puts 0 n word false fault :: spillZ p pc bw ws room)
    (fun v l => v = .bool false ∧ l = scL c p who puts 1 n word false fault :: spillZ p pc bw (ws.set 0 (who + 1)) room) := by
  refine Does.of tiok Tryz.func232 (by kernel_rfl) rfl Tryz.ntmps232 rfl ?_
  intro W fr
  repeat' (first | refine Wka ?_ | intro _ | apply And.intro)
  have hwas := hw
  refine J_draw [0, 0, 0, 1, 0, 0, 1, 0, 0, 0, 1, 0, 0, 0, 1, 0, 2, 0] (List.range 18) (by kernel_rfl) (by kernel_rfl) ?_
  repeat' (first | refine Wkd ?_ | intro _ | apply And.intro)
  have hsw := Swap_z (p := pc) (bw := bw) (ws := ws) who 0 0 (who + 1) 0 h4 h5 (by omega) hwas (by omega)
  simp only [if_true] at hsw
  refine JX_l rfl rfl (OL_call [2] rfl rfl rfl hsw rfl) rfl rfl ?_
  rintro _ _ ⟨_, ⟨rfl, rfl⟩, rfl⟩
  repeat' (first | refine Wkd ?_ | intro _ | apply And.intro)
  repeat' (first | refine Wka ?_ | intro _ | apply And.intro)
  exact At_ret rfl rfl (.tmp rfl .nil) rfl (is := [0, 1, 0]) rfl ⟨rfl, rfl⟩
set_option maxHeartbeats 2000000 in
theorem Step_wait {who n word fault : Int} {puts : Bool} {was : Int} (h1 : ws.length = room + 2) (h3 : room ≤ 65534) (h4 : 0 ≤ who) (h5 : who < 64) (hwas : ws[0]? = some was) (hne : was ≠ 0) : Does Tryz.prog 232 [ptr c 0] (scL c p who puts 0 n word false fault :: spillZ p pc bw ws room)
    (fun v l => v = .bool false ∧ l = scL c p who puts 0 n word false fault :: spillZ p pc bw ws room) := by
  refine Does.of tiok Tryz.func232 (by kernel_rfl) rfl Tryz.ntmps232 rfl ?_
  intro W fr
  repeat' (first | refine Wka ?_ | intro _ | apply And.intro)
  refine J_draw [0, 0, 0, 1, 0, 0, 1, 0, 0, 0, 1, 0, 0, 0, 1, 0, 2, 0] (List.range 18) (by kernel_rfl) (by kernel_rfl) ?_
  repeat' (first | refine Wkd ?_ | intro _ | apply And.intro)
  have hsw := Swap_z (p := pc) (bw := bw) (ws := ws) who was 0 (who + 1) 0 h4 h5 (by omega) hwas (by omega)
  simp only [if_neg hne, setz_same hwas] at hsw
  refine JX_l rfl rfl (OL_call [2] rfl rfl rfl hsw rfl) rfl rfl ?_
  rintro _ _ ⟨_, ⟨rfl, rfl⟩, rfl⟩
  repeat' (first | refine Wkd ?_ | intro _ | apply And.intro)
  repeat' (first | refine Wka ?_ | intro _ | apply And.intro)
  all_goals first | exact At_ret rfl rfl (.tmp rfl .nil) rfl (is := [1, 1, 0]) rfl ⟨rfl, rfl⟩ | (rename_i hx; exact absurd (by simp) hx)
set_option maxHeartbeats 2000000 in
theorem Step_look {who n word fault : Int} {puts : Bool} {was : Int} (h1 : ws.length = room + 2) (h3 : room ≤ 65534) (h4 : 0 ≤ who) (h5 : who < 64) (hwas : ws[1]? = some was) : Does Tryz.prog 232 [ptr c 0] (scL c p who puts 1 n word false fault :: spillZ p pc bw ws room)
    (fun v l => v = .bool false ∧ l = scL c p who puts 2 was word false fault :: spillZ p pc bw ws room) := by
  refine Does.of tiok Tryz.func232 (by kernel_rfl) rfl Tryz.ntmps232 rfl ?_
  intro W fr
  repeat' (first | refine Wka ?_ | intro _ | apply And.intro)
  refine J_draw [0, 0, 0, 0, 1, 0, 0, 1, 0, 0, 0, 1, 2, 0, 0, 0, 0, 0, 2] (List.range 19) (by kernel_rfl) (by kernel_rfl) ?_
  repeat' (first | refine Wkd ?_ | intro _ | apply And.intro)
  refine JX_l rfl rfl (OL_call [2] rfl rfl rfl (Load_z who was 1 h4 h5 hwas (by omega)) rfl) rfl rfl ?_
  rintro _ _ ⟨_, ⟨rfl, rfl⟩, rfl⟩
  repeat' (first | refine Wkd ?_ | intro _ | apply And.intro)
  repeat' (first | refine Wka ?_ | intro _ | apply And.intro)
  exact At_ret rfl rfl (.tmp rfl .nil) rfl (is := [0, 1, 0]) rfl ⟨rfl, rfl⟩
set_option maxHeartbeats 2000000 in
theorem Step_put {who word fault : Int} {m : Nat} (h1 : ws.length = room + 2) (h3 : room ≤ 65534) (h4 : 0 ≤ who) (h5 : who < 64) (hn : m < room) : Does Tryz.prog 232 [ptr c 0] (scL c p who true 2 m word false fault :: spillZ p pc bw ws room)
    (fun v l => v = .bool false ∧ l = scL c p who true 3 m word false fault :: spillZ p pc bw (ws.set (2 + m) word) room) := by
  refine Does.of tiok Tryz.func232 (by kernel_rfl) rfl Tryz.ntmps232 rfl ?_
  intro W fr
  repeat' (first | refine Wka ?_ | intro _ | apply And.intro)
  refine JO_l (OL_call [0, 0, 0] rfl rfl rfl (move_put h1 h3 h4 h5 hn) rfl) rfl rfl ?_; rintro _ _ ⟨_, ⟨rfl, rfl⟩, rfl⟩
  repeat' (first | refine Wka ?_ | intro _ | apply And.intro)
  exact At_ret rfl rfl (.tmp rfl .nil) rfl (is := [0, 0, 0]) rfl ⟨rfl, rfl⟩
set_option maxHeartbeats 2000000 in
theorem Step_full {who word fault : Int} {m : Nat} (h1 : ws.length = room + 2) (h3 : room ≤ 65534) (h4 : 0 ≤ who) (h5 : who < 64) (hn : room ≤ m) : Does Tryz.prog 232 [ptr c 0] (scL c p who true 2 m word false fault :: spillZ p pc bw ws room)
    (fun v l => v = .bool true ∧ l = scL c p who true 3 m word true 6 :: spillZ p pc bw (ws.set 0 0) room) := by
  refine Does.of tiok Tryz.func232 (by kernel_rfl) rfl Tryz.ntmps232 rfl ?_
  intro W fr
  repeat' (first | refine Wka ?_ | intro _ | apply And.intro)
  refine JO_l (OL_call [0, 0, 0] rfl rfl rfl (move_full h1 h3 h4 h5 hn) rfl) rfl rfl ?_; rintro _ _ ⟨_, ⟨rfl, rfl⟩, rfl⟩
  repeat' (first | refine Wka ?_ | intro _ | apply And.intro)
  exact At_ret rfl rfl (.tmp rfl .nil) rfl (is := [0, 0, 0]) rfl ⟨rfl, rfl⟩
set_option maxHeartbeats 2000000 in
theorem Step_take {who word fault : Int} {m : Nat} (h1 : ws.length = room + 2) (h3 : room ≤ 65534) (h4 : 0 ≤ who) (h5 : who < 64) (hn : 0 < m) (hn2 : m ≤ room) : Does Tryz.prog 232 [ptr c 0] (scL c p who false 2 m word false fault :: spillZ p pc bw ws room)
    (fun v l => v = .bool false ∧ l = scL c p who false 3 m (ws.getD (1 + m) 0) false fault :: spillZ p pc bw ws room) := by
  refine Does.of tiok Tryz.func232 (by kernel_rfl) rfl Tryz.ntmps232 rfl ?_
  intro W fr
  repeat' (first | refine Wka ?_ | intro _ | apply And.intro)
  refine JO_l (OL_call [0, 0, 0] rfl rfl rfl (move_take h1 h3 h4 h5 hn hn2) rfl) rfl rfl ?_; rintro _ _ ⟨_, ⟨rfl, rfl⟩, rfl⟩
  repeat' (first | refine Wka ?_ | intro _ | apply And.intro)
  exact At_ret rfl rfl (.tmp rfl .nil) rfl (is := [0, 0, 0]) rfl ⟨rfl, rfl⟩
set_option maxHeartbeats 2000000 in
theorem Step_empty {who word fault : Int} {m : Nat} (h1 : ws.length = room + 2) (h3 : room ≤ 65534) (h4 : 0 ≤ who) (h5 : who < 64) (hn : m = 0) : Does Tryz.prog 232 [ptr c 0] (scL c p who false 2 m word false fault :: spillZ p pc bw ws room)
    (fun v l => v = .bool true ∧ l = scL c p who false 3 m word true 7 :: spillZ p pc bw (ws.set 0 0) room) := by
  refine Does.of tiok Tryz.func232 (by kernel_rfl) rfl Tryz.ntmps232 rfl ?_
  intro W fr
  repeat' (first | refine Wka ?_ | intro _ | apply And.intro)
  refine JO_l (OL_call [0, 0, 0] rfl rfl rfl (move_empty h1 h3 h4 h5 hn) rfl) rfl rfl ?_; rintro _ _ ⟨_, ⟨rfl, rfl⟩, rfl⟩
  repeat' (first | refine Wka ?_ | intro _ | apply And.intro)
  exact At_ret rfl rfl (.tmp rfl .nil) rfl (is := [0, 0, 0]) rfl ⟨rfl, rfl⟩
set_option maxHeartbeats 2000000 in
theorem Step_more {who word fault : Int} {m : Nat} (h1 : ws.length = room + 2) (h3 : room ≤ 65534) (h4 : 0 ≤ who) (h5 : who < 64) (hn : m ≤ room) : Does Tryz.prog 232 [ptr c 0] (scL c p who true 3 m word false fault :: spillZ p pc bw ws room)
    (fun v l => v = .bool false ∧ l = scL c p who true 4 m word false fault :: spillZ p pc bw (ws.set 1 ((m : Int) + 1)) room) := by
  obtain ⟨was, hwas⟩ : ∃ u, ws[1]? = some u := ⟨ws[1]'(by omega), List.getElem?_eq_getElem _⟩
  refine Does.of tiok Tryz.func232 (by kernel_rfl) rfl Tryz.ntmps232 rfl ?_
  intro W fr
  repeat' (first | refine Wka ?_ | intro _ | apply And.intro)
  refine J_draw [0, 0, 0, 1, 0, 0, 1, 0, 0, 0, 1, 0, 0, 0, 1, 0, 2] (List.range 17) (by kernel_rfl) (by kernel_rfl) ?_
  repeat' (first | refine Wkd ?_ | intro _ | apply And.intro)
  refine JX_l rfl rfl (OL_call [2] rfl rfl rfl (Store_z who ((m : Int) + 1) 1 h4 h5 (by omega) (by omega)) rfl) rfl rfl ?_
  rintro _ _ ⟨_, ⟨rfl, rfl⟩, rfl⟩
  repeat' (first | refine Wkd ?_ | intro _ | apply And.intro)
  repeat' (first | refine Wka ?_ | intro _ | apply And.intro)
  exact At_ret rfl rfl (.tmp rfl .nil) rfl (is := [0, 1, 0]) rfl ⟨rfl, rfl⟩
set_option maxHeartbeats 2000000 in
theorem Step_less {who word fault : Int} {m : Nat} (h1 : ws.length = room + 2) (h3 : room ≤ 65534) (h4 : 0 ≤ who) (h5 : who < 64) (hn : m ≤ room) : Does Tryz.prog 232 [ptr c 0] (scL c p who false 3 m word false fault :: spillZ p pc bw ws room)
    (fun v l => v = .bool false ∧ l = scL c p who false 4 m word false fault :: spillZ p pc bw (ws.set 1 ((m : Int) - 1)) room) := by
  obtain ⟨was, hwas⟩ : ∃ u, ws[1]? = some u := ⟨ws[1]'(by omega), List.getElem?_eq_getElem _⟩
  refine Does.of tiok Tryz.func232 (by kernel_rfl) rfl Tryz.ntmps232 rfl ?_
  intro W fr
  repeat' (first | refine Wka ?_ | intro _ | apply And.intro)
  refine J_draw [0, 0, 0, 1, 0, 0, 1, 0, 0, 0, 1, 0, 0, 0, 1, 0, 2] (List.range 17) (by kernel_rfl) (by kernel_rfl) ?_
  repeat' (first | refine Wkd ?_ | intro _ | apply And.intro)
  refine JX_l rfl rfl (OL_call [2] rfl rfl rfl (Store_z who ((m : Int) - 1) 1 h4 h5 (by omega) (by omega)) rfl) rfl rfl ?_
  rintro _ _ ⟨_, ⟨rfl, rfl⟩, rfl⟩
  repeat' (first | refine Wkd ?_ | intro _ | apply And.intro)
  repeat' (first | refine Wka ?_ | intro _ | apply And.intro)
  exact At_ret rfl rfl (.tmp rfl .nil) rfl (is := [0, 1, 0]) rfl ⟨rfl, rfl⟩
set_option maxHeartbeats 2000000 in
theorem Step_end {who n word fault : Int} {puts : Bool} (h1 : ws.length = room + 2) (h3 : room ≤ 65534) (h4 : 0 ≤ who) (h5 : who < 64) : Does Tryz.prog 232 [ptr c 0] (scL c p who puts 4 n word false fault :: spillZ p pc bw ws room)
    (fun v l => v = .bool true ∧ l = scL c p who puts 5 n word true 0 :: spillZ p pc bw (ws.set 0 0) room) := by
  refine Does.of tiok Tryz.func232 (by kernel_rfl) rfl Tryz.ntmps232 rfl ?_
  intro W fr
  repeat' (first | refine Wka ?_ | intro _ | apply And.intro)
  refine JO_l (OL_call [0, 0, 0] rfl rfl rfl (leave_spec 0 h1 h3 h4 h5) rfl) rfl rfl ?_; rintro _ _ ⟨_, ⟨rfl, rfl⟩, rfl⟩
  repeat' (first | refine Wka ?_ | intro _ | apply And.intro)
  exact At_ret rfl rfl (.tmp rfl .nil) rfl (is := [0, 0, 0]) rfl ⟨rfl, rfl⟩
end ops
end Go.Proofs.YtfmkjbmogfhpbaaGreatDoor.Sp
set_option maxRecDepth 8000
namespace Go.Proofs.YtfmkjbmogfhpbaaGreatDoor.Sp
open Go.Sep
def MoreS (rm k : Nat) (x x' : SK) (P P' : List Int) (L L' : Option Nat) : Prop :=
  (x.s = 0 ∧ L ≠ none ∧ x' = x ∧ P' = P ∧ L' = L) ∨ (x.s = 0 ∧ L = none ∧ x' = { x with s := 1 } ∧ P' = P ∧ L' = some k) ∨ (x.s = 1 ∧ L = some k ∧ x' = { x with s := 2, n := P.length } ∧ P' = P ∧ L' = L) ∨
  (x.s = 2 ∧ L = some k ∧ 0 < x.w ∧ P.length < rm ∧ x' = { x with s := 3 } ∧ P' = P ∧ L' = L) ∨ (x.s = 2 ∧ L = some k ∧ x.w = 0 ∧ (∃ P0 w, P = P0 ++ [w] ∧ x' = { x with s := 3, word := w }) ∧ P' = P ∧ L' = L) ∨
  (x.s = 3 ∧ L = some k ∧ 0 < x.w ∧ x' = { x with s := 4 } ∧ P' = P ++ [x.w] ∧ L' = L) ∨ (x.s = 3 ∧ L = some k ∧ x.w = 0 ∧ x' = { x with s := 4 } ∧ P = P' ++ [x.word] ∧ L' = L)
section ops
variable {p pc bw nc rm : Nat} {ws P : List Int} {cs : List SK} {L : Option Nat} {k : Nat} {x : SK}
set_option maxHeartbeats 4000000 in
theorem StepK_spec (h : SHI nc rm cs ws P L) (hk4 : k < 64) (hx : cs[k]? = some x) (ho : x.on = true) :
    Does Tryz.prog 232 [ptr x.c 0] (scL x.c p k (decide (0 < x.w)) x.s x.n x.word false 0 :: spillZ p pc bw ws rm)
    (fun v l => (∃ x' ws' P' L', v = .bool false ∧ SHI nc rm (cs.set k x') ws' P' L' ∧ MoreS rm k x x' P P' L L' ∧ l = scL x.c p k (decide (0 < x.w)) x'.s x'.n x'.word false 0 :: spillZ p pc bw ws' rm) ∨
      (∃ s' fault, v = .bool true ∧ L = some k ∧ SHI nc rm (cs.set k { x with on := false }) (ws.set 0 0) P none ∧ ((fault = 0 ∧ x.s = 4) ∨ (fault = 6 ∧ 0 < x.w ∧ x.s = 2 ∧ rm ≤ P.length) ∨ (fault = 7 ∧ x.w = 0 ∧ x.s = 2 ∧ P = [])) ∧
        l = scL x.c p k (decide (0 < x.w)) s' x.n x.word true fault :: spillZ p pc bw (ws.set 0 0) rm)) := by
  have hwl := h.wl
  have hpl := h.pl
  have hr4 := h.r4
  obtain ⟨a2, a4, a5, a6⟩ := h.sl k x hx ho
  have hxk := h.ck k x hx
  have hsame : cs.set k x = cs := by
    obtain ⟨h1, h2⟩ := List.getElem?_eq_some_iff.1 hx
    rw [← h2]; exact List.set_getElem_self h1
  obtain ⟨xk, on, c, w, s, n, word⟩ := x
  dsimp only at ho a2 a4 a5 a6 hxk ⊢
  subst ho hxk
  have h4 : (0 : Int) ≤ (xk : Int) := by omega
  have h5 : (xk : Int) < 64 := by omega
  by_cases hL : L = some xk
  · subst hL
    obtain ⟨x2, hx2, _, hs1, hs4⟩ := h.hold xk rfl
    rw [hx] at hx2; injection hx2 with hx2; subst hx2
    dsimp only at hs1 hs4
    have hph := a6 rfl
    by_cases e1 : s = 1
    · subst e1
      refine (Step_look (p := p) (pc := pc) (bw := bw) (room := rm) (n := n) (word := word) (fault := 0) (puts := decide (0 < w)) hwl hr4 h4 h5 h.pn).mono ?_
      rintro v l ⟨rfl, rfl⟩
      exact .inl ⟨_, _, _, _, rfl, h.look hx rfl, .inr (.inr (.inl ⟨rfl, rfl, rfl, rfl, rfl⟩)), rfl⟩
    · by_cases e2 : s = 2
      · subst e2
        have hn : n = P.length := hph.1 rfl
        by_cases hw : 0 < w
        · have hd : decide (0 < w) = true := decide_eq_true hw
          have hword : word = w := a4 hw
          by_cases hr : P.length < rm
          · rw [hd]
            subst hn hword
            refine (Step_put (p := p) (pc := pc) (bw := bw) (room := rm) (m := P.length) (fault := 0) (word := word) hwl hr4 h4 h5 hr).mono ?_
            rintro v l ⟨rfl, rfl⟩
            exact .inl ⟨_, _, _, _, rfl, h.word hx rfl rfl hw hr, .inr (.inr (.inr (.inl ⟨rfl, rfl, hw, hr, rfl, rfl, rfl⟩))), rfl⟩
          · rw [hd]
            refine (Step_full (p := p) (pc := pc) (bw := bw) (room := rm) (m := n) (fault := 0) (word := word) hwl hr4 h4 h5 (by omega)).mono ?_
            rintro v l ⟨rfl, rfl⟩
            exact .inr ⟨3, 6, rfl, rfl, h.out hx, .inr (.inl ⟨rfl, hw, rfl, by omega⟩), rfl⟩
        · have hd : decide (0 < w) = false := decide_eq_false hw
          have hw0 : w = 0 := by omega
          by_cases hr : 0 < P.length
          · rw [hd]
            obtain ⟨P0, y, hP⟩ : ∃ P0 y, P = P0 ++ [y] := ⟨P.dropLast, P.getLast (by intro h; rw [h] at hr; cases hr), (List.dropLast_concat_getLast _).symm⟩
            refine (Step_take (p := p) (pc := pc) (bw := bw) (room := rm) (m := n) (fault := 0) (word := word) hwl hr4 h4 h5 (by omega) (by omega)).mono ?_
            rintro v l ⟨rfl, rfl⟩
            have hy : ws.getD (1 + n) 0 = y := by
              have h1 := h.pa P0.length (by rw [hP]; simp)
              have h2 : n = P0.length + 1 := by rw [hn, hP]; simp
              rw [List.getD_eq_getElem?_getD, show 1 + n = 2 + P0.length by omega, h1, hP]
              simp
            rw [hy]
            exact .inl ⟨_, _, _, _, rfl, h.load hx rfl rfl hw0 hP, .inr (.inr (.inr (.inr (.inl ⟨rfl, rfl, hw0, ⟨P0, y, hP, rfl⟩, rfl, rfl⟩)))), rfl⟩
          · rw [hd]
            refine (Step_empty (p := p) (pc := pc) (bw := bw) (room := rm) (m := n) (fault := 0) (word := word) hwl hr4 h4 h5 (by omega)).mono ?_
            rintro v l ⟨rfl, rfl⟩
            exact .inr ⟨3, 7, rfl, rfl, h.out hx, .inr (.inr ⟨rfl, hw0, rfl, List.eq_nil_of_length_eq_zero (by omega)⟩), rfl⟩
      · by_cases e3 : s = 3
        · subst e3
          obtain ⟨hn, hp1, hp2⟩ := hph.2 rfl
          have hn : n = P.length := hn
          by_cases hw : 0 < w
          · have hd : decide (0 < w) = true := decide_eq_true hw
            rw [hd]
            subst hn
            refine (Step_more (p := p) (pc := pc) (bw := bw) (room := rm) (m := P.length) (fault := 0) (word := word) hwl hr4 h4 h5 (by omega)).mono ?_
            rintro v l ⟨rfl, rfl⟩
            exact .inl ⟨_, _, _, _, rfl, h.more hx rfl rfl hw, .inr (.inr (.inr (.inr (.inr (.inl ⟨rfl, rfl, hw, rfl, rfl, rfl⟩))))), rfl⟩
          · have hd : decide (0 < w) = false := decide_eq_false hw
            have hw0 : w = 0 := by omega
            obtain ⟨P0, hP⟩ := hp2 hw0
            rw [hd]
            subst hn
            refine (Step_less (p := p) (pc := pc) (bw := bw) (room := rm) (m := P.length) (fault := 0) (word := word) hwl hr4 h4 h5 (by omega)).mono ?_
            rintro v l ⟨rfl, rfl⟩
            exact .inl ⟨_, _, _, _, rfl, h.less hx rfl rfl hw0 hP, .inr (.inr (.inr (.inr (.inr (.inr ⟨rfl, rfl, hw0, rfl, hP, rfl⟩))))), rfl⟩
        · obtain rfl : s = 4 := by omega
          refine (Step_end (p := p) (pc := pc) (bw := bw) (room := rm) (n := n) (word := word) (fault := 0) (puts := decide (0 < w)) hwl hr4 h4 h5).mono ?_
          rintro v l ⟨rfl, rfl⟩
          exact .inr ⟨5, 0, rfl, rfl, h.out hx, .inl ⟨rfl, rfl⟩, rfl⟩
  · have hs0 : s = 0 := a5 hL
    subst hs0
    cases L with
    | none =>
      refine (Step_lock (p := p) (pc := pc) (bw := bw) (room := rm) (n := n) (word := word) (fault := 0) (puts := decide (0 < w)) hwl hr4 h4 h5 h.lk).mono ?_
      rintro v l ⟨rfl, rfl⟩
      exact .inl ⟨_, _, _, _, rfl, h.lock hx rfl, .inr (.inl ⟨rfl, rfl, rfl, rfl, rfl⟩), rfl⟩
    | some j =>
      refine (Step_wait (p := p) (pc := pc) (bw := bw) (room := rm) (n := n) (word := word) (fault := 0) (puts := decide (0 < w)) hwl hr4 h4 h5 h.lk (by show (j : Int) + 1 ≠ 0; omega)).mono ?_
      rintro v l ⟨rfl, rfl⟩
      refine .inl ⟨⟨xk, true, c, w, 0, n, word⟩, ws, P, some j, rfl, ?_, .inl ⟨rfl, by simp, rfl, rfl, rfl⟩, rfl⟩
      rw [hsame]
      exact h
end ops
end Go.Proofs.YtfmkjbmogfhpbaaGreatDoor.Sp
namespace Go.Proofs.YtfmkjbmogfhpbaaGreatDoor.Dq
open Go.Sep
structure DK where
  k : Nat
  on : Bool
  push : Bool
  c : Nat
  s : Nat
  b : Nat
  t : Nat
  word : Int
def OwnD (rm : Nat) (x : DK) (pu next : Int) (ws P : List Int) (T : Nat) : Prop :=
  (x.on = false → pu = 0 ∧ ws[0]? = some ((T % 4096 + P.length : Nat) : Int)) ∧
  (x.on = true → x.push = true → pu = x.word ∧ 0 < x.word ∧ x.word < next ∧ x.s ≤ 2 ∧ ws[0]? = some ((T % 4096 + P.length : Nat) : Int) ∧ (1 ≤ x.s → x.b = T % 4096 + P.length ∧ x.b < rm) ∧ (x.s = 2 → ws[2 + x.b]? = some x.word)) ∧
  (x.on = true → x.push = false → pu = 0 ∧ x.s ≤ 6 ∧ (x.s ≤ 1 → ws[0]? = some ((T % 4096 + P.length : Nat) : Int)) ∧ (1 ≤ x.s → x.s ≤ 5 → x.b + 1 = T % 4096 + P.length) ∧ (2 ≤ x.s → x.s ≤ 4 → ws[0]? = some (x.b : Int)) ∧
    (3 ≤ x.s → x.s ≤ 5 → ws[2 + x.b]? = some x.word) ∧ (4 ≤ x.s → x.t / 4096 = T / 4096 ∧ x.t ≤ T) ∧ (x.s = 4 → x.b ≤ x.t % 4096) ∧ (5 ≤ x.s → ws[0]? = some 0) ∧ (x.s = 5 → x.b = x.t % 4096) ∧ (x.s = 6 → P = []))
def ThD (rm : Nat) (x : DK) (P : List Int) (T : Nat) : Prop :=
  x.s ≤ 3 ∧ (1 ≤ x.s → x.t ≤ T) ∧ (2 ≤ x.s → x.t % 4096 < rm) ∧ (2 ≤ x.s → x.t = T → 0 < P.length) ∧ (x.s = 3 → x.t = T → P[0]? = some x.word)
structure DHI (nc rm : Nat) (cs : List DK) (pu next : Int) (m : Nat) (ws P : List Int) (T : Nat) : Prop where
  r4 : rm ≤ 1024
  n0 : 0 < nc
  cl : cs.length = nc
  ck : ∀ (j : Nat) (x : DK), cs[j]? = some x → x.k = j
  wl : ws.length = rm + 2
  tp : ws[1]? = some (T : Int)
  tb : T / 4096 ≤ m
  ph : T % 4096 + P.length ≤ rm
  pa : ∀ (i : Nat), i < P.length → ws[2 + (T % 4096 + i)]? = P[i]?
  pb : ∀ (y : Int), y ∈ P → 0 < y ∧ y < next
  own : ∀ (x : DK), cs[0]? = some x → OwnD rm x pu next ws P T
  th : ∀ (j : Nat) (x : DK), 0 < j → cs[j]? = some x → x.on = true → x.push = false ∧ ThD rm x P T
theorem DHI.upd {nc rm : Nat} {cs : List DK} {pu pu' next next' : Int} {m m' : Nat} {ws P ws' P' : List Int} {T T' k : Nat} (h : DHI nc rm cs pu next m ws P T) (x' : DK) (hk : x'.k = k) (hk4 : k < nc) (wl : ws'.length = rm + 2) (tp : ws'[1]? = some (T' : Int)) (tb : T' / 4096 ≤ m') (ph : T' % 4096 + P'.length ≤ rm)
    (pa : ∀ i, i < P'.length → ws'[2 + (T' % 4096 + i)]? = P'[i]?) (pb : ∀ y ∈ P', 0 < y ∧ y < next') (hO : k = 0 → OwnD rm x' pu' next' ws' P' T') (hO2 : k ≠ 0 → ∀ x, OwnD rm x pu next ws P T → OwnD rm x pu' next' ws' P' T')
    (hT : k ≠ 0 → x'.on = true → x'.push = false ∧ ThD rm x' P' T') (hT2 : ∀ x, ThD rm x P T → ThD rm x P' T') : DHI nc rm (cs.set k x') pu' next' m' ws' P' T' := by
  have hcl := h.cl
  have hn0 := h.n0
  have hset : ∀ j y, (cs.set k x')[j]? = some y → (j = k ∧ y = x') ∨ (j ≠ k ∧ cs[j]? = some y) := by
    intro j y hy
    rw [List.getElem?_set] at hy
    by_cases e : k = j
    · rw [if_pos e, if_pos (by omega)] at hy
      injection hy with hy
      exact .inl ⟨e.symm, hy.symm⟩
    · rw [if_neg e] at hy
      exact .inr ⟨fun e2 => e e2.symm, hy⟩
  refine ⟨h.r4, h.n0, by simp [hcl], fun j y hy => ?_, wl, tp, tb, ph, pa, pb, fun y hy => ?_, fun j y hj hy hon => ?_⟩
  · rcases hset j y hy with ⟨rfl, rfl⟩ | ⟨_, hy⟩
    · exact hk
    · exact h.ck j y hy
  · rcases hset 0 y hy with ⟨e, rfl⟩ | ⟨hne, hy⟩
    · exact hO e.symm
    · exact hO2 (Ne.symm hne) y (h.own y hy)
  · rcases hset j y hy with ⟨rfl, rfl⟩ | ⟨_, hy⟩
    · exact hT (by omega) hon
    · obtain ⟨a1, a2⟩ := h.th j y hj hy hon
      exact ⟨a1, hT2 y a2⟩
theorem set_eq {α : Type} {l : List α} {i : Nat} {v : α} (h : i < l.length) : (l.set i v)[i]? = some v := by rw [List.getElem?_set, if_pos rfl, if_pos h]
theorem set_ne {α : Type} {l : List α} {i j : Nat} {v : α} (h : i ≠ j) : (l.set i v)[j]? = l[j]? := List.getElem?_set_ne h
section steps
variable {nc rm : Nat} {cs : List DK} {pu next : Int} {m : Nat} {ws P : List Int} {T : Nat} {k : Nat} {x : DK}
theorem DHI.bot (h : DHI nc rm cs pu next m ws P T) : ∃ m0 : Nat, ws[0]? = some (m0 : Int) ∧ m0 ≤ T % 4096 + P.length := by
  have hcl := h.cl
  have hn0 := h.n0
  have hx : cs[0]? = some cs[0] := List.getElem?_eq_getElem _
  obtain ⟨h1, h2, h3⟩ := h.own _ hx
  generalize cs[0] = x at h1 h2 h3
  cases ho : x.on with
  | false => exact ⟨_, (h1 ho).2, Nat.le_refl _⟩
  | true =>
    cases hp : x.push with
    | true => exact ⟨_, (h2 ho hp).2.2.2.2.1, Nat.le_refl _⟩
    | false =>
      obtain ⟨_, b1, b2, b3, b4, b5, b6, b7, b8, b9⟩ := h3 ho hp
      by_cases e1 : x.s ≤ 1
      · exact ⟨_, b2 e1, Nat.le_refl _⟩
      · by_cases e2 : x.s ≤ 4
        · exact ⟨_, b4 (by omega) e2, by have := b3 (by omega) (by omega); omega⟩
        · exact ⟨0, b8 (by omega), Nat.zero_le _⟩
theorem DHI.quiet {pu' : Int} {m' : Nat} (h : DHI nc rm cs pu next m ws P T) (x' : DK) (hk : x'.k = k) (hk4 : k < nc) (hm : m ≤ m') (hO : k = 0 → OwnD rm x' pu' next ws P T) (hO2 : k ≠ 0 → pu' = pu) (hT : k ≠ 0 → x'.on = true → x'.push = false ∧ ThD rm x' P T) : DHI nc rm (cs.set k x') pu' next m' ws P T :=
  h.upd x' hk hk4 h.wl h.tp (Nat.le_trans h.tb hm) h.ph h.pa h.pb hO (fun e x hx => by rw [hO2 e]; exact hx) hT (fun x hx => hx)
theorem OwnD.off {x : DK} (h1 : x.on = false) (h2 : pu = 0) (h3 : ws[0]? = some ((T % 4096 + P.length : Nat) : Int)) : OwnD rm x pu next ws P T :=
  ⟨fun _ => ⟨h2, h3⟩, fun h => absurd (h1.symm.trans h) (by decide), fun h => absurd (h1.symm.trans h) (by decide)⟩
theorem push0 (h : DHI nc rm cs pu next m ws P T) (hx : cs[0]? = some x) (ho : x.on = true) (hp : x.push = true) (hs : x.s = 0) (hb : T % 4096 + P.length < rm) : DHI nc rm (cs.set 0 { x with s := 1, b := T % 4096 + P.length }) pu next (m + 1) ws P T := by
  obtain ⟨a1, a2, a3, a4, a5, a6, a7⟩ := (h.own x hx).2.1 ho hp
  refine h.quiet _ (h.ck 0 x hx) h.n0 (Nat.le_succ _) (fun _ => ⟨fun e => ?_, fun _ _ => ⟨a1, a2, a3, by show 1 ≤ 2; decide, a5, fun _ => ⟨rfl, hb⟩, fun e => by cases e⟩, fun _ e => ?_⟩) (fun e => absurd rfl e) (fun e => absurd rfl e)
  · rw [show ({ x with s := 1, b := T % 4096 + P.length } : DK).on = x.on from rfl, ho] at e; cases e
  · rw [show ({ x with s := 1, b := T % 4096 + P.length } : DK).push = x.push from rfl, hp] at e; cases e
theorem idle0 (h : DHI nc rm cs pu next m ws P T) (hx : cs[0]? = some x) (hb : ws[0]? = some ((T % 4096 + P.length : Nat) : Int)) : DHI nc rm (cs.set 0 { x with on := false }) 0 next (m + 1) ws P T :=
  h.quiet _ (h.ck 0 x hx) h.n0 (Nat.le_succ _) (fun _ => OwnD.off rfl rfl hb) (fun e => absurd rfl e) (fun e => absurd rfl e)
theorem push1 (h : DHI nc rm cs pu next m ws P T) (hx : cs[0]? = some x) (ho : x.on = true) (hp : x.push = true) (hs : x.s = 1) : DHI nc rm (cs.set 0 { x with s := 2 }) pu next (m + 1) (ws.set (2 + x.b) x.word) P T := by
  obtain ⟨a1, a2, a3, a4, a5, a6, a7⟩ := (h.own x hx).2.1 ho hp
  obtain ⟨b1, b2⟩ := a6 (by omega)
  have hwl := h.wl
  have hr4 := h.r4
  have htb := h.tb
  refine h.upd _ (h.ck 0 x hx) h.n0 (by simp [hwl]) (by rw [set_ne (by omega)]; exact h.tp) (by omega) h.ph (fun i hi => by rw [set_ne (by omega)]; exact h.pa i hi) h.pb
    (fun _ => ⟨fun e => ?_, fun _ _ => ⟨a1, a2, a3, Nat.le_refl _, by rw [set_ne (by omega)]; exact a5, fun _ => ⟨b1, b2⟩, fun _ => set_eq (by omega)⟩, fun _ e => ?_⟩) (fun e => absurd rfl e) (fun e => absurd rfl e) (fun _ e => e)
  · rw [show ({ x with s := 2 } : DK).on = x.on from rfl, ho] at e; cases e
  · rw [show ({ x with s := 2 } : DK).push = x.push from rfl, hp] at e; cases e
theorem push2 (h : DHI nc rm cs pu next m ws P T) (hx : cs[0]? = some x) (ho : x.on = true) (hp : x.push = true) (hs : x.s = 2) : DHI nc rm (cs.set 0 { x with on := false }) 0 next (m + 1) (ws.set 0 ((x.b : Int) + 1)) (P ++ [x.word]) T := by
  obtain ⟨a1, a2, a3, a4, a5, a6, a7⟩ := (h.own x hx).2.1 ho hp
  obtain ⟨b1, b2⟩ := a6 (by omega)
  have hwl := h.wl
  have hr4 := h.r4
  have htb := h.tb
  have hw := a7 hs
  refine h.upd _ (h.ck 0 x hx) h.n0 (by simp [hwl]) (by rw [set_ne (by omega)]; exact h.tp) (by omega) (by simp; omega) (fun i hi => ?_) (fun y hy => ?_)
    (fun _ => OwnD.off rfl rfl ?_) (fun e => absurd rfl e) (fun e => absurd rfl e) (fun y ⟨e1, e2, e3, e4, e5⟩ => ⟨e1, e2, e3, fun e6 e7 => by simp, fun e6 e7 => ?_⟩)
  · rw [set_ne (by omega)]
    rw [List.length_append, List.length_singleton] at hi
    by_cases e : i = P.length
    · subst e; rw [← b1, hw]; simp
    · rw [h.pa i (by omega), List.getElem?_append_left (by omega)]
  · rcases List.mem_append.1 hy with hy | hy
    · exact h.pb y hy
    · rw [List.mem_singleton.1 hy]; exact ⟨a2, a3⟩
  · rw [set_eq (by omega), b1, List.length_append, List.length_singleton]
    congr 1
  · rw [List.getElem?_append_left (e4 (by omega) e7)]; exact e5 e6 e7
theorem pop0 (h : DHI nc rm cs pu next m ws P T) (hx : cs[0]? = some x) (ho : x.on = true) (hp : x.push = false) (hs : x.s = 0) {b : Nat} (hb : b + 1 = T % 4096 + P.length) : DHI nc rm (cs.set 0 { x with s := 1, b := b }) pu next (m + 1) ws P T := by
  obtain ⟨a1, a2, a3, a4, a5, a6, a7, a8, a9, a10, a11⟩ := (h.own x hx).2.2 ho hp
  refine h.quiet _ (h.ck 0 x hx) h.n0 (Nat.le_succ _) (fun _ => ⟨fun e => ?_, fun _ e => ?_, fun _ _ => ⟨a1, by show 1 ≤ 6; decide, fun _ => a3 (by omega), fun _ _ => hb, ?_, ?_, ?_, ?_, ?_, ?_, ?_⟩⟩) (fun e => absurd rfl e) (fun e => absurd rfl e)
  · rw [show ({ x with s := 1, b := b } : DK).on = x.on from rfl, ho] at e; cases e
  · rw [show ({ x with s := 1, b := b } : DK).push = x.push from rfl, hp] at e; cases e
  all_goals (dsimp only; intros; omega)
theorem pop1 (h : DHI nc rm cs pu next m ws P T) (hx : cs[0]? = some x) (ho : x.on = true) (hp : x.push = false) (hs : x.s = 1) : DHI nc rm (cs.set 0 { x with s := 2 }) pu next (m + 1) (ws.set 0 (x.b : Int)) P T := by
  obtain ⟨a1, a2, a3, a4, a5, a6, a7, a8, a9, a10, a11⟩ := (h.own x hx).2.2 ho hp
  have hwl := h.wl
  have hr4 := h.r4
  have htb := h.tb
  refine h.upd _ (h.ck 0 x hx) h.n0 (by simp [hwl]) (by rw [set_ne (by omega)]; exact h.tp) (by omega) h.ph (fun i hi => by rw [set_ne (by omega)]; exact h.pa i hi) h.pb
    (fun _ => ⟨fun e => ?_, fun _ e => ?_, fun _ _ => ⟨a1, by show 2 ≤ 6; decide, ?_, fun _ _ => a4 (by omega) (by omega), fun _ _ => set_eq (by omega), ?_, ?_, ?_, ?_, ?_, ?_⟩⟩) (fun e => absurd rfl e) (fun e => absurd rfl e) (fun _ e => e)
  · rw [show ({ x with s := 2 } : DK).on = x.on from rfl, ho] at e; cases e
  · rw [show ({ x with s := 2 } : DK).push = x.push from rfl, hp] at e; cases e
  all_goals (dsimp only; intros; omega)
theorem pop2 {w : Int} (h : DHI nc rm cs pu next m ws P T) (hx : cs[0]? = some x) (ho : x.on = true) (hp : x.push = false) (hs : x.s = 2) (hw : ws[2 + x.b]? = some w) : DHI nc rm (cs.set 0 { x with s := 3, word := w }) pu next (m + 1) ws P T := by
  obtain ⟨a1, a2, a3, a4, a5, a6, a7, a8, a9, a10, a11⟩ := (h.own x hx).2.2 ho hp
  refine h.quiet _ (h.ck 0 x hx) h.n0 (Nat.le_succ _) (fun _ => ⟨fun e => ?_, fun _ e => ?_, fun _ _ => ⟨a1, by show 3 ≤ 6; decide, ?_, fun _ _ => a4 (by omega) (by omega), fun _ _ => a5 (by omega) (by omega), fun _ _ => hw, ?_, ?_, ?_, ?_, ?_⟩⟩) (fun e => absurd rfl e) (fun e => absurd rfl e)
  · rw [show ({ x with s := 3, word := w } : DK).on = x.on from rfl, ho] at e; cases e
  · rw [show ({ x with s := 3, word := w } : DK).push = x.push from rfl, hp] at e; cases e
  all_goals (dsimp only; intros; omega)
theorem pop3_take (h : DHI nc rm cs pu next m ws P T) (hx : cs[0]? = some x) (ho : x.on = true) (hp : x.push = false) (hs : x.s = 3) (hb : T % 4096 < x.b) : ∃ P0, P = P0 ++ [x.word] ∧ DHI nc rm (cs.set 0 { x with on := false }) 0 next (m + 1) ws P0 T := by
  obtain ⟨a1, a2, a3, a4, a5, a6, a7, a8, a9, a10, a11⟩ := (h.own x hx).2.2 ho hp
  have hb2 := a4 (by omega) (by omega)
  have hw := a6 (by omega) (by omega)
  have htb := h.tb
  have hph := h.ph
  have hr4 := h.r4
  obtain ⟨P0, w, rfl⟩ : ∃ P0 w, P = P0 ++ [w] := ⟨P.dropLast, P.getLast (by intro e; rw [e] at hb2; simp at hb2; omega), (List.dropLast_concat_getLast _).symm⟩
  rw [List.length_append, List.length_singleton] at hb2 hph
  have hl := h.pa P0.length (by simp)
  rw [show 2 + (T % 4096 + P0.length) = 2 + x.b by omega, hw] at hl
  have hww : x.word = w := by simpa using hl
  refine ⟨P0, by rw [hww], h.upd _ (h.ck 0 x hx) h.n0 h.wl h.tp (by omega) (by omega) (fun i hi => ?_) (fun y hy => h.pb y (List.mem_append_left _ hy)) (fun _ => OwnD.off rfl rfl ?_) (fun e => absurd rfl e) (fun e => absurd rfl e) (fun y ⟨e1, e2, e3, e4, e5⟩ => ⟨e1, e2, e3, fun e6 e7 => by omega, fun e6 e7 => ?_⟩)⟩
  · rw [h.pa i (by simp; omega), List.getElem?_append_left hi]
  · rw [a5 (by omega) (by omega)]
    congr 1
    omega
  · have := e5 e6 e7
    rwa [List.getElem?_append_left (by omega)] at this
theorem pop3_next (h : DHI nc rm cs pu next m ws P T) (hx : cs[0]? = some x) (ho : x.on = true) (hp : x.push = false) (hs : x.s = 3) (hb : x.b ≤ T % 4096) : DHI nc rm (cs.set 0 { x with s := 4, t := T }) pu next (m + 1) ws P T := by
  obtain ⟨a1, a2, a3, a4, a5, a6, a7, a8, a9, a10, a11⟩ := (h.own x hx).2.2 ho hp
  refine h.quiet _ (h.ck 0 x hx) h.n0 (Nat.le_succ _) (fun _ => ⟨fun e => ?_, fun _ e => ?_, fun _ _ => ⟨a1, by show 4 ≤ 6; decide, ?_, fun _ _ => a4 (by omega) (by omega), fun _ _ => a5 (by omega) (by omega), fun _ _ => a6 (by omega) (by omega), fun _ => ⟨rfl, Nat.le_refl _⟩, fun _ => hb, ?_, ?_, ?_⟩⟩) (fun e => absurd rfl e) (fun e => absurd rfl e)
  · rw [show ({ x with s := 4, t := T } : DK).on = x.on from rfl, ho] at e; cases e
  · rw [show ({ x with s := 4, t := T } : DK).push = x.push from rfl, hp] at e; cases e
  all_goals (dsimp only; intros; omega)
theorem pop4_eq (h : DHI nc rm cs pu next m ws P T) (hx : cs[0]? = some x) (ho : x.on = true) (hp : x.push = false) (hs : x.s = 4) (hb : x.b = x.t % 4096) : DHI nc rm (cs.set 0 { x with s := 5 }) pu next (m + 1) (ws.set 0 0) P T := by
  obtain ⟨a1, a2, a3, a4, a5, a6, a7, a8, a9, a10, a11⟩ := (h.own x hx).2.2 ho hp
  have hwl := h.wl
  have hr4 := h.r4
  have htb := h.tb
  refine h.upd _ (h.ck 0 x hx) h.n0 (by simp [hwl]) (by rw [set_ne (by omega)]; exact h.tp) (by omega) h.ph (fun i hi => by rw [set_ne (by omega)]; exact h.pa i hi) h.pb
    (fun _ => ⟨fun e => ?_, fun _ e => ?_, fun _ _ => ⟨a1, by show 5 ≤ 6; decide, ?_, fun _ _ => a4 (by omega) (by omega), ?_, fun _ _ => by rw [set_ne (by omega)]; exact a6 (by omega) (by omega), fun _ => a7 (by omega), ?_, fun _ => set_eq (by omega), fun _ => hb, ?_⟩⟩) (fun e => absurd rfl e) (fun e => absurd rfl e) (fun _ e => e)
  · rw [show ({ x with s := 5 } : DK).on = x.on from rfl, ho] at e; cases e
  · rw [show ({ x with s := 5 } : DK).push = x.push from rfl, hp] at e; cases e
  all_goals (dsimp only; intros; omega)
theorem pop4_ne (h : DHI nc rm cs pu next m ws P T) (hx : cs[0]? = some x) (ho : x.on = true) (hp : x.push = false) (hs : x.s = 4) (hb : x.b ≠ x.t % 4096) : DHI nc rm (cs.set 0 { x with s := 6 }) pu next (m + 1) (ws.set 0 0) P T := by
  obtain ⟨a1, a2, a3, a4, a5, a6, a7, a8, a9, a10, a11⟩ := (h.own x hx).2.2 ho hp
  have hwl := h.wl
  have hr4 := h.r4
  have htb := h.tb
  have hb2 := a4 (by omega) (by omega)
  obtain ⟨c1, c2⟩ := a7 (by omega)
  have c3 := a8 hs
  refine h.upd _ (h.ck 0 x hx) h.n0 (by simp [hwl]) (by rw [set_ne (by omega)]; exact h.tp) (by omega) h.ph (fun i hi => by rw [set_ne (by omega)]; exact h.pa i hi) h.pb
    (fun _ => ⟨fun e => ?_, fun _ e => ?_, fun _ _ => ⟨a1, by show 6 ≤ 6; decide, ?_, ?_, ?_, ?_, fun _ => ⟨c1, c2⟩, ?_, fun _ => set_eq (by omega), ?_, fun _ => List.eq_nil_of_length_eq_zero (by omega)⟩⟩) (fun e => absurd rfl e) (fun e => absurd rfl e) (fun _ e => e)
  · rw [show ({ x with s := 6 } : DK).on = x.on from rfl, ho] at e; cases e
  · rw [show ({ x with s := 6 } : DK).push = x.push from rfl, hp] at e; cases e
  all_goals (dsimp only; intros; omega)
theorem pop5_ok (h : DHI nc rm cs pu next m ws P T) (hx : cs[0]? = some x) (ho : x.on = true) (hp : x.push = false) (hs : x.s = 5) (ht : T = x.t) : P = [x.word] ∧ DHI nc rm (cs.set 0 { x with on := false }) 0 next (m + 1) (ws.set 1 (((x.t : Int) / 4096 + 1) * 4096)) [] ((x.t / 4096 + 1) * 4096) := by
  obtain ⟨a1, a2, a3, a4, a5, a6, a7, a8, a9, a10, a11⟩ := (h.own x hx).2.2 ho hp
  have hwl := h.wl
  have hr4 := h.r4
  have htb := h.tb
  have hb2 := a4 (by omega) (by omega)
  have hb3 := a10 hs
  have hw := a6 (by omega) (by omega)
  subst ht
  refine ⟨?_, h.upd _ (h.ck 0 x hx) h.n0 (by simp [hwl]) (by rw [set_eq (by omega)]; congr 1) (by omega) (by simp) (fun i hi => absurd hi (Nat.not_lt_zero _)) (fun y hy => by cases hy) (fun _ => OwnD.off rfl rfl ?_) (fun e => absurd rfl e) (fun e => absurd rfl e) (fun y ⟨e1, e2, e3, e4, e5⟩ => ⟨e1, fun e6 => by have := e2 e6; omega, e3, fun e6 e7 => ?_, fun e6 e7 => ?_⟩)⟩
  · obtain ⟨w, rfl⟩ : ∃ w, P = [w] := List.length_eq_one_iff.1 (by omega)
    have hl := h.pa 0 (by simp)
    rw [show 2 + (x.t % 4096 + 0) = 2 + x.b by omega, hw] at hl
    have hww : x.word = w := by simpa using hl
    rw [hww]
  · rw [set_ne (by omega), a9 (by omega)]
    congr 1
    simp
  · have := e2 (by omega); omega
  · have := e2 (by omega); omega
theorem pop5_lost (h : DHI nc rm cs pu next m ws P T) (hx : cs[0]? = some x) (ho : x.on = true) (hp : x.push = false) (hs : x.s = 5) (ht : T ≠ x.t) : DHI nc rm (cs.set 0 { x with s := 6 }) pu next (m + 1) ws P T := by
  obtain ⟨a1, a2, a3, a4, a5, a6, a7, a8, a9, a10, a11⟩ := (h.own x hx).2.2 ho hp
  have hb2 := a4 (by omega) (by omega)
  have hb3 := a10 hs
  obtain ⟨c1, c2⟩ := a7 (by omega)
  refine h.quiet _ (h.ck 0 x hx) h.n0 (Nat.le_succ _) (fun _ => ⟨fun e => ?_, fun _ e => ?_, fun _ _ => ⟨a1, by show 6 ≤ 6; decide, ?_, ?_, ?_, ?_, fun _ => ⟨c1, c2⟩, ?_, fun _ => a9 (by omega), ?_, fun _ => List.eq_nil_of_length_eq_zero (by omega)⟩⟩) (fun e => absurd rfl e) (fun e => absurd rfl e)
  · rw [show ({ x with s := 6 } : DK).on = x.on from rfl, ho] at e; cases e
  · rw [show ({ x with s := 6 } : DK).push = x.push from rfl, hp] at e; cases e
  all_goals (dsimp only; intros; omega)
theorem pop6 (h : DHI nc rm cs pu next m ws P T) (hx : cs[0]? = some x) (ho : x.on = true) (hp : x.push = false) (hs : x.s = 6) : P = [] ∧ DHI nc rm (cs.set 0 { x with on := false }) 0 next (m + 1) (ws.set 1 (((x.t : Int) / 4096 + 1) * 4096)) [] ((x.t / 4096 + 1) * 4096) := by
  obtain ⟨a1, a2, a3, a4, a5, a6, a7, a8, a9, a10, a11⟩ := (h.own x hx).2.2 ho hp
  have hwl := h.wl
  have hr4 := h.r4
  have htb := h.tb
  obtain ⟨c1, c2⟩ := a7 (by omega)
  refine ⟨a11 hs, h.upd _ (h.ck 0 x hx) h.n0 (by simp [hwl]) (by rw [set_eq (by omega)]; congr 1) (by omega) (by simp) (fun i hi => absurd hi (Nat.not_lt_zero _)) (fun y hy => by cases hy) (fun _ => OwnD.off rfl rfl ?_) (fun e => absurd rfl e) (fun e => absurd rfl e) (fun y ⟨e1, e2, e3, e4, e5⟩ => ⟨e1, fun e6 => by have := e2 e6; omega, e3, fun e6 e7 => ?_, fun e6 e7 => ?_⟩)⟩
  · rw [set_ne (by omega), a9 (by omega)]
    congr 1
    simp
  · have := e2 (by omega); omega
  · have := e2 (by omega); omega
theorem st0 (h : DHI nc rm cs pu next m ws P T) (hk : 0 < k) (hk4 : k < nc) (hx : cs[k]? = some x) (ho : x.on = true) : DHI nc rm (cs.set k { x with s := 1, t := T }) pu next (m + 1) ws P T := by
  obtain ⟨a0, a1, a2, a3, a4, a5⟩ := h.th k x hk hx ho
  exact h.quiet _ (h.ck k x hx) hk4 (Nat.le_succ _) (fun e => by omega) (fun _ => rfl) (fun _ _ => ⟨a0, by show 1 ≤ 3; decide, fun _ => Nat.le_refl _, fun e => absurd e (by show ¬ 2 ≤ 1; decide), fun e => absurd e (by show ¬ 2 ≤ 1; decide), fun e => by cases e⟩)
theorem st1 (h : DHI nc rm cs pu next m ws P T) (hk : 0 < k) (hk4 : k < nc) (hx : cs[k]? = some x) (ho : x.on = true) (hs : x.s = 1) {m0 : Nat} (hm : m0 ≤ T % 4096 + P.length) (hb : x.t % 4096 < m0) : DHI nc rm (cs.set k { x with s := 2 }) pu next (m + 1) ws P T := by
  obtain ⟨a0, a1, a2, a3, a4, a5⟩ := h.th k x hk hx ho
  have hph := h.ph
  have hr4 := h.r4
  have ht := a2 (by omega)
  exact h.quiet _ (h.ck k x hx) hk4 (Nat.le_succ _) (fun e => by omega) (fun _ => rfl) (fun _ _ => ⟨a0, by show 2 ≤ 3; decide, fun _ => ht, fun _ => by show x.t % 4096 < rm; omega, fun _ (e : x.t = T) => by subst e; omega, fun e => by cases e⟩)
theorem stOff (h : DHI nc rm cs pu next m ws P T) (hk : 0 < k) (hk4 : k < nc) (hx : cs[k]? = some x) : DHI nc rm (cs.set k { x with on := false }) pu next (m + 1) ws P T :=
  h.quiet _ (h.ck k x hx) hk4 (Nat.le_succ _) (fun e => by omega) (fun _ => rfl) (fun _ e => by cases e)
theorem st2 {w : Int} (h : DHI nc rm cs pu next m ws P T) (hk : 0 < k) (hk4 : k < nc) (hx : cs[k]? = some x) (ho : x.on = true) (hs : x.s = 2) (hw : ws[2 + x.t % 4096]? = some w) : DHI nc rm (cs.set k { x with s := 3, word := w }) pu next (m + 1) ws P T := by
  obtain ⟨a0, a1, a2, a3, a4, a5⟩ := h.th k x hk hx ho
  have ht := a2 (by omega)
  have ht3 := a3 (by omega)
  refine h.quiet _ (h.ck k x hx) hk4 (Nat.le_succ _) (fun e => by omega) (fun _ => rfl) (fun _ _ => ⟨a0, Nat.le_refl _, fun _ => ht, fun _ => ht3, fun _ => a4 (by omega), fun _ (e : x.t = T) => ?_⟩)
  have h0 := a4 (by omega) e
  have hl := h.pa 0 h0
  rw [← hl, ← hw]
  congr 1
  subst e
  omega
theorem st3_ok (h : DHI nc rm cs pu next m ws P T) (hk : 0 < k) (hk4 : k < nc) (hx : cs[k]? = some x) (ho : x.on = true) (hs : x.s = 3) (ht : T = x.t) : ∃ P0, P = x.word :: P0 ∧ DHI nc rm (cs.set k { x with on := false }) pu next (m + 1) (ws.set 1 ((x.t : Int) + 1)) P0 (T + 1) := by
  obtain ⟨a0, a1, a2, a3, a4, a5⟩ := h.th k x hk hx ho
  have hwl := h.wl
  have hr4 := h.r4
  have htb := h.tb
  have hph := h.ph
  have h3 := a3 (by omega)
  have hw := a5 hs ht.symm
  subst ht
  match P, hw with
  | w :: P0, hw =>
    have hww : x.word = w := by simpa using hw.symm
    rw [List.length_cons] at hph
    refine ⟨P0, by rw [hww], h.upd _ (h.ck k x hx) hk4 (by simp [hwl]) (by rw [set_eq (by omega)]; rfl) (by omega) (by omega) (fun i hi => ?_) (fun y hy => h.pb y (.tail _ hy)) (fun e => by omega) (fun _ y hy => ?_) (fun _ e => by cases e) (fun y ⟨e1, e2, e3, e4, e5⟩ => ⟨e1, fun e6 => by have := e2 e6; omega, e3, fun e6 e7 => ?_, fun e6 e7 => ?_⟩)⟩
    · have := h.pa (i + 1) (by simp; omega)
      rw [set_ne (by omega), show 2 + ((x.t + 1) % 4096 + i) = 2 + (x.t % 4096 + (i + 1)) by omega, this]
      simp
    · obtain ⟨f1, f2, f3⟩ := hy
      have hbe : (x.t + 1) % 4096 + P0.length = x.t % 4096 + (w :: P0).length := by rw [List.length_cons]; omega
      unfold OwnD
      rw [set_ne (by omega), hbe]
      refine ⟨f1, fun g1 g2 => ?_, fun g1 g2 => ?_⟩
      · obtain ⟨b1, b2, b3, b4, b5, b6, b7⟩ := f2 g1 g2
        exact ⟨b1, b2, b3, b4, b5, b6, fun e => by rw [set_ne (by omega)]; exact b7 e⟩
      · obtain ⟨b1, b2, b3, b4, b5, b6, b7, b8, b9, b10, b11⟩ := f3 g1 g2
        refine ⟨b1, b2, b3, b4, b5, fun e1 e2 => by rw [set_ne (by omega)]; exact b6 e1 e2, fun e => by have := b7 e; omega, b8, b9, b10, fun e => by have := b11 e; cases this⟩
    · have := e2 (by omega); omega
    · have := e2 (by omega); omega
end steps
end Go.Proofs.YtfmkjbmogfhpbaaGreatDoor.Dq
set_option maxRecDepth 8000
namespace Go.Proofs.YtfmkjbmogfhpbaaGreatDoor.Dq
open Go.Sep
def fnD (x : DK) : FuncId :=
  if x.k = 0 then
    if x.push = true then (match x.s with | 0 => 174 | 1 => 188 | _ => 196)
    else (match x.s with | 0 => 142 | 1 => 160 | 2 => 179 | 3 => 190 | 4 => 197 | 5 => 203 | _ => 204)
  else (match x.s with | 0 => 167 | 1 => 184 | 2 => 194 | _ => 202)
def EndD (x : DK) (k : Nat) (w fault : Int) (P P' : List Int) : Prop :=
  (x.push = true ∧ k = 0 ∧ ((fault = 0 ∧ P' = P ++ [x.word]) ∨ (fault = 6 ∧ P' = P))) ∨
  (x.push = false ∧ ((fault = 0 ∧ w ∈ P ∧ ∀ y, P.count y = P'.count y + if y = w then 1 else 0) ∨ (w = 0 ∧ P' = P ∧ (fault = 7 ∨ (fault = 8 ∧ 0 < k)))))
theorem count_snoc (P0 : List Int) (w y : Int) : (P0 ++ [w]).count y = P0.count y + if y = w then 1 else 0 := by
  rw [List.count_append, List.count_singleton]
  by_cases e : y = w
  · subst e; simp
  · have e2 : ¬ w = y := fun h => e h.symm
    simp [e, e2]
theorem count_cons' (P0 : List Int) (w y : Int) : (w :: P0).count y = P0.count y + if y = w then 1 else 0 := by
  rw [List.count_cons]
  by_cases e : y = w
  · subst e; simp
  · have e2 : ¬ w = y := fun h => e h.symm
    simp [e, e2]
section ops
variable {nc rm p pc bw : Nat} {ws P : List Int} {cs : List DK} {pu next : Int} {m T : Nat} {k : Nat} {x : DK}
abbrev postD (nc rm p pc bw : Nat) (cs : List DK) (pu next : Int) (m T k : Nat) (P : List Int) (x : DK) (v : Value) (l : List HP) : Prop :=
  ((∃ x' ws', v = .bool false ∧ x'.on = true ∧ x'.c = x.c ∧ x'.k = k ∧ x'.push = x.push ∧ x.s < x'.s ∧ DHI nc rm (cs.set k x') pu next (m + 1) ws' P T ∧ l = dcL x.c p k (nx (fnD x')) x'.b x'.t x'.word 0 :: deqZ p pc bw ws' rm) ∨
      (∃ b' t' w' fault ws' P' T', v = .bool true ∧ DHI nc rm (cs.set k { x with on := false }) (if k = 0 then 0 else pu) next (m + 1) ws' P' T' ∧ EndD x k w' fault P P' ∧ ((P' = P → 0 < k → T' = T) ∧ (k = 0 → x.push = false → fault ≠ 0 → P' = [])) ∧ l = dcL x.c p k .nilFunc b' t' w' fault :: deqZ p pc bw ws' rm))
theorem more_ok {x x' : DK} {ws' : List Int} {who : Int} {v : Value} {l : List HP} (h : DHI nc rm (cs.set k x') pu next (m + 1) ws' P T) (hwho : who = (k : Int)) (hon : x'.on = true) (hc : x'.c = x.c) (hk : x'.k = k) (hp : x'.push = x.push) (hs : x.s < x'.s)
    (hl : v = .bool false ∧ l = dcL x.c p who (nx (fnD x')) x'.b x'.t x'.word 0 :: deqZ p pc bw ws' rm) : postD nc rm p pc bw cs pu next m T k P x v l := by
  subst hwho
  obtain ⟨rfl, rfl⟩ := hl
  exact .inl ⟨x', ws', rfl, hon, hc, hk, hp, hs, h, rfl⟩
theorem end_ok' {x : DK} {ws' P' : List Int} {T' : Nat} {who b' t' w' fault pu' : Int} {v : Value} {l : List HP} (hwho : who = (k : Int)) (hT : (P' = P → 0 < k → T' = T) ∧ (k = 0 → x.push = false → fault ≠ 0 → P' = [])) (h : DHI nc rm (cs.set k { x with on := false }) pu' next (m + 1) ws' P' T') (hpu : pu' = if k = 0 then 0 else pu) (he : EndD x k w' fault P P')
    (hl : v = .bool true ∧ l = dcL x.c p who .nilFunc b' t' w' fault :: deqZ p pc bw ws' rm) : postD nc rm p pc bw cs pu next m T k P x v l := by
  subst hwho hpu
  obtain ⟨rfl, rfl⟩ := hl
  exact .inr ⟨b', t', w', fault, ws', P', T', rfl, h, he, hT, rfl⟩
set_option maxHeartbeats 4000000 in
theorem StepDP_spec (h : DHI nc rm cs pu next m ws P T) (hx : cs[0]? = some x) (ho : x.on = true) (hp : x.push = true) :
    Does Tryz.prog 229 [ptr x.c 0] (dcL x.c p ((0 : Nat) : Int) (nx (fnD x)) x.b x.t x.word 0 :: deqZ p pc bw ws rm) (postD nc rm p pc bw cs pu next m T 0 P x) := by
  have hwl : ws.length = rm + 2 := h.wl
  have hr4 := h.r4
  have hph := h.ph
  have hxk := h.ck 0 x hx
  obtain ⟨a1, a2, a3, a4, a5, a6, a7⟩ := (h.own x hx).2.1 ho hp
  obtain ⟨s, hs⟩ : ∃ s, x.s = s := ⟨_, rfl⟩
  have hq0 := fun hs hb => push0 h hx ho hp hs hb
  have hq1 := fun hs => push1 h hx ho hp hs
  have hq2 := fun hs => push2 h hx ho hp hs
  have hq3 := fun hb => idle0 h hx hb
  obtain ⟨xk, on, pu2, c, s2, b, t, word⟩ := x
  dsimp only at ho hp hxk hs a1 a2 a3 a4 a5 a6 a7 hq0 hq1 hq2 hq3 ⊢
  subst ho hp hxk hs
  rcases (by omega : s2 = 0 ∨ s2 = 1 ∨ s2 = 2) with rfl | rfl | rfl
  · by_cases hb : T % 4096 + P.length < rm
    · exact (StepD_more (pushLook_ok a5 hwl h.r4 (by decide) (by decide) hb)).mono fun v l hl => more_ok (hq0 rfl hb) rfl rfl rfl rfl rfl (Nat.lt_succ_self _) hl
    · exact (StepD_end (pushLook_full a5 hwl h.r4 (by decide) (by decide) (by omega) (by omega))).mono fun v l hl => end_ok' rfl ⟨fun _ e => absurd e (by decide), fun _ e => (by cases e)⟩ (hq3 a5) rfl (.inl ⟨rfl, rfl, .inr ⟨rfl, rfl⟩⟩) hl
  · obtain ⟨b1, b2⟩ := a6 (by omega)
    exact (StepD_more (pushWord_ok hwl h.r4 (by decide) (by decide) (by omega))).mono fun v l hl => more_ok (hq1 rfl) rfl rfl rfl rfl rfl (Nat.lt_succ_self _) hl
  · obtain ⟨b1, b2⟩ := a6 (by omega)
    exact (StepD_end (pushEnd_ok hwl h.r4 (by decide) (by decide) (by omega))).mono fun v l hl => end_ok' rfl ⟨fun _ e => absurd e (by decide), fun _ e => (by cases e)⟩ (hq2 rfl) rfl (.inl ⟨rfl, rfl, .inl ⟨rfl, rfl⟩⟩) hl
set_option maxHeartbeats 4000000 in
theorem StepDO_spec (h : DHI nc rm cs pu next m ws P T) (hm : m ≤ 1000000000000) (hx : cs[0]? = some x) (ho : x.on = true) (hp : x.push = false) :
    Does Tryz.prog 229 [ptr x.c 0] (dcL x.c p ((0 : Nat) : Int) (nx (fnD x)) x.b x.t x.word 0 :: deqZ p pc bw ws rm) (postD nc rm p pc bw cs pu next m T 0 P x) := by
  have hwl : ws.length = rm + 2 := h.wl
  have hr4 := h.r4
  have hph := h.ph
  have htp := h.tp
  have htb := h.tb
  have hxk := h.ck 0 x hx
  obtain ⟨a1, a2, a3, a4, a5, a6, a7, a8, a9, a10, a11⟩ := (h.own x hx).2.2 ho hp
  have hq0 := fun hs b hb => pop0 h hx ho hp hs (b := b) hb
  have hq1 := fun hs => pop1 h hx ho hp hs
  have hq2 := fun hs w hw => pop2 (w := w) h hx ho hp hs hw
  have hq3 := fun hs hb => pop3_take h hx ho hp hs hb
  have hq3n := fun hs hb => pop3_next h hx ho hp hs hb
  have hq4 := fun hs hb => pop4_eq h hx ho hp hs hb
  have hq4n := fun hs hb => pop4_ne h hx ho hp hs hb
  have hq5 := fun hs hb => pop5_ok h hx ho hp hs hb
  have hq5n := fun hs hb => pop5_lost h hx ho hp hs hb
  have hq6 := fun hs => pop6 h hx ho hp hs
  have hqi := fun hb => idle0 h hx hb
  obtain ⟨xk, on, pu2, c, s2, b, t, word⟩ := x
  dsimp only at ho hp hxk a1 a2 a3 a4 a5 a6 a7 a8 a9 a10 a11 hq0 hq1 hq2 hq3 hq3n hq4 hq4n hq5 hq5n hq6 hqi ⊢
  subst ho hp hxk
  have h0b : T / 4096 ≤ 1000000000000 := by omega
  rcases (by omega : s2 = 0 ∨ s2 = 1 ∨ s2 = 2 ∨ s2 = 3 ∨ s2 = 4 ∨ s2 = 5 ∨ s2 = 6) with rfl | rfl | rfl | rfl | rfl | rfl | rfl
  · have a5' := a3 (by omega)
    by_cases hb : 1 ≤ T % 4096 + P.length
    · obtain ⟨b0, hb0⟩ : ∃ b0, b0 + 1 = T % 4096 + P.length := ⟨T % 4096 + P.length - 1, by omega⟩
      refine (StepD_more (popLook_ok a5' hwl h.r4 (by decide) (by decide) hb (by omega))).mono fun v l hl => more_ok (hq0 rfl b0 hb0) rfl rfl rfl rfl rfl (Nat.lt_succ_self _) ?_
      rw [show (((T % 4096 + P.length : Nat) : Int) - 1) = (b0 : Int) by omega] at hl
      exact hl
    · have a6' := a5'
      rw [show ((T % 4096 + P.length : Nat) : Int) = 0 by omega] at a6'
      exact (StepD_end (popLook_empty a6' hwl h.r4 (by decide) (by decide))).mono fun v l hl => end_ok' rfl ⟨fun _ e => absurd e (by decide), fun _ _ _ => List.eq_nil_of_length_eq_zero (by omega)⟩ (hqi a5') rfl (.inr ⟨rfl, .inr ⟨rfl, rfl, .inl rfl⟩⟩) hl
  · exact (StepD_more (popLess_ok hwl h.r4 (by decide) (by decide))).mono fun v l hl => more_ok (hq1 rfl) rfl rfl rfl rfl rfl (Nat.lt_succ_self _) hl
  · have hb := a4 (by omega) (by omega)
    obtain ⟨w, hw⟩ : ∃ w, ws[2 + b]? = some w := ⟨ws[2 + b]'(by omega), List.getElem?_eq_getElem _⟩
    exact (StepD_more (popWord_ok (by omega) hw hwl h.r4 (by decide) (by decide))).mono fun v l hl => more_ok (hq2 rfl w hw) rfl rfl rfl rfl rfl (Nat.lt_succ_self _) hl
  · by_cases hb : T % 4096 < b
    · obtain ⟨P0, hP, hD⟩ := hq3 rfl hb
      exact (StepD_end (popTop_more htp hwl h.r4 (by decide) (by decide) (by omega))).mono fun v l hl => end_ok' rfl ⟨fun _ e => absurd e (by decide), fun _ _ e => absurd rfl e⟩ hD rfl (.inr ⟨rfl, .inl ⟨rfl, by rw [hP]; simp, fun y => by rw [hP]; exact count_snoc _ _ _⟩⟩) hl
    · exact (StepD_more (popTop_next htp hwl h.r4 (by decide) (by decide) (by omega))).mono fun v l hl => more_ok (hq3n rfl (by omega)) rfl rfl rfl rfl rfl (Nat.lt_succ_self _) hl
  · by_cases hb : b = t % 4096
    · exact (StepD_more (popNone_eq hwl h.r4 (by decide) (by decide) (by omega))).mono fun v l hl => more_ok (hq4 rfl hb) rfl rfl rfl rfl rfl (Nat.lt_succ_self _) hl
    · exact (StepD_more (popNone_ne hwl h.r4 (by decide) (by decide) (by omega))).mono fun v l hl => more_ok (hq4n rfl hb) rfl rfl rfl rfl rfl (show 4 < 6 by decide) hl
  · have ht := (a7 (by omega)).2
    by_cases hb : T = t
    · obtain ⟨hP, hD⟩ := hq5 rfl hb
      exact (StepD_end (popLast_ok (by omega) (by rw [← hb]; exact htp) hwl h.r4 (by decide) (by decide))).mono fun v l hl => end_ok' rfl ⟨fun _ e => absurd e (by decide), fun _ _ e => absurd rfl e⟩ hD rfl (.inr ⟨rfl, .inl ⟨rfl, by rw [hP]; simp, fun y => by rw [hP]; exact count_cons' [] _ _⟩⟩) hl
    · exact (StepD_more (popLast_lost (by omega) htp (by omega) hwl h.r4 (by decide) (by decide))).mono fun v l hl => more_ok (hq5n rfl hb) rfl rfl rfl rfl rfl (Nat.lt_succ_self _) hl
  · have ht := (a7 (by omega)).2
    obtain ⟨hP, hD⟩ := hq6 rfl
    exact (StepD_end (popEnd_ok (by omega) hwl h.r4 (by decide) (by decide))).mono fun v l hl => end_ok' rfl ⟨fun _ e => absurd e (by decide), fun _ _ _ => rfl⟩ hD rfl (.inr ⟨rfl, .inr ⟨rfl, hP.symm, .inl rfl⟩⟩) hl
set_option maxHeartbeats 4000000 in
theorem StepDT_spec (h : DHI nc rm cs pu next m ws P T) (hm : m ≤ 1000000000000) (hk : 0 < k) (hk4 : k < nc) (hnc : nc ≤ 64) (hx : cs[k]? = some x) (ho : x.on = true) :
    Does Tryz.prog 229 [ptr x.c 0] (dcL x.c p (k : Int) (nx (fnD x)) x.b x.t x.word 0 :: deqZ p pc bw ws rm) (postD nc rm p pc bw cs pu next m T k P x) := by
  have hwl : ws.length = rm + 2 := h.wl
  have hr4 := h.r4
  have hph := h.ph
  have htp := h.tp
  have htb := h.tb
  have hxk := h.ck k x hx
  obtain ⟨m0, hm0, hm1⟩ := h.bot
  obtain ⟨hp, a1, a2, a3, a4, a5⟩ := h.th k x hk hx ho
  have hq0 := st0 h hk hk4 hx ho
  have hq1 := fun hs hb => st1 h hk hk4 hx ho hs hm1 hb
  have hq2 := fun hs w hw => st2 (w := w) h hk hk4 hx ho hs hw
  have hq3 := fun hs ht => st3_ok h hk hk4 hx ho hs ht
  have hqi := stOff h hk hk4 hx
  have hpu : pu = if k = 0 then 0 else pu := by rw [if_neg (by omega)]
  obtain ⟨xk, on, pu2, c, s2, b, t, word⟩ := x
  dsimp only at ho hp hxk a1 a2 a3 a4 a5 hq0 hq1 hq2 hq3 hqi ⊢
  subst ho hp hxk
  have h0b : T / 4096 ≤ 1000000000000 := by omega
  have h4 : (0 : Int) ≤ (xk : Int) := by omega
  have h5 : (xk : Int) < 64 := by omega
  have hf : ∀ s b t w, fnD ⟨xk, true, false, c, s, b, t, w⟩ = (match s with | 0 => 167 | 1 => 184 | 2 => 194 | _ => 202) := fun s b t w => by unfold fnD; rw [if_neg (by show ¬ xk = 0; omega)]
  rcases (by omega : s2 = 0 ∨ s2 = 1 ∨ s2 = 2 ∨ s2 = 3) with rfl | rfl | rfl | rfl
  · rw [hf]
    refine (StepD_more (stealTop_ok htp hwl h.r4 h4 h5)).mono fun v l hl => more_ok hq0 rfl rfl rfl rfl rfl (Nat.lt_succ_self _) ?_
    rw [hf]; exact hl
  · rw [hf]
    by_cases hb : t % 4096 < m0
    · refine (StepD_more (stealBottom_ok hm0 hwl h.r4 h4 h5 (by omega))).mono fun v l hl => more_ok (hq1 rfl hb) rfl rfl rfl rfl rfl (Nat.lt_succ_self _) ?_
      rw [hf]; exact hl
    · exact (StepD_end (stealBottom_empty hm0 hwl h.r4 h4 h5 (by omega))).mono fun v l hl => end_ok' rfl ⟨fun _ _ => rfl, fun e => by omega⟩ hqi hpu (.inr ⟨rfl, .inr ⟨rfl, rfl, .inl rfl⟩⟩) hl
  · rw [hf]
    have ht3 := a3 (by omega)
    obtain ⟨w, hw⟩ : ∃ w, ws[2 + t % 4096]? = some w := ⟨ws[2 + t % 4096]'(by omega), List.getElem?_eq_getElem _⟩
    refine (StepD_more (stealWord_ok (k := t % 4096) (by omega) ht3 hw hwl h.r4 h4 h5)).mono fun v l hl => more_ok (hq2 rfl w hw) rfl rfl rfl rfl rfl (Nat.lt_succ_self _) ?_
    rw [hf]; exact hl
  · rw [hf]
    have ht := a2 (by omega)
    by_cases hb : T = t
    · obtain ⟨P0, hP, hD⟩ := hq3 rfl hb
      exact (StepD_end (stealEnd_ok (by omega) (by rw [← hb]; exact htp) hwl h.r4 h4 h5)).mono fun v l hl => end_ok' rfl ⟨fun e _ => by rw [hP] at e; have := congrArg List.length e; simp at this, fun e => by omega⟩ hD hpu (.inr ⟨rfl, .inl ⟨rfl, by rw [hP]; simp, fun y => by rw [hP]; exact count_cons' _ _ _⟩⟩) hl
    · exact (StepD_end (stealEnd_lost (by omega) htp (by omega) hwl h.r4 h4 h5)).mono fun v l hl => end_ok' rfl ⟨fun _ _ => rfl, fun e => by omega⟩ hqi hpu (.inr ⟨rfl, .inr ⟨rfl, rfl, .inr ⟨rfl, hk⟩⟩⟩) hl
theorem StepDK_spec (h : DHI nc rm cs pu next m ws P T) (hm : m ≤ 1000000000000) (hk4 : k < nc) (hnc : nc ≤ 64) (hx : cs[k]? = some x) (ho : x.on = true) :
    Does Tryz.prog 229 [ptr x.c 0] (dcL x.c p (k : Int) (nx (fnD x)) x.b x.t x.word 0 :: deqZ p pc bw ws rm) (postD nc rm p pc bw cs pu next m T k P x) := by
  by_cases hk : k = 0
  · subst hk
    cases hp : x.push with
    | true => exact StepDP_spec h hx ho hp
    | false => exact StepDO_spec h hm hx ho hp
  · exact StepDT_spec h hm (by omega) hk4 hnc hx ho
end ops
end Go.Proofs.YtfmkjbmogfhpbaaGreatDoor.Dq
set_option maxRecDepth 8000
namespace Go.Proofs.YtfmkjbmogfhpbaaGreatDoor.Mk
open Go.Sep
abbrev mkB (pM p pr pk pp po : Nat) (da : Option Addr) (dn dc : Nat) (wa : Option Addr) (wn wc : Nat) (chunk tv sv : Int) : HP :=
  blk pM [ptr p 0, ptr pr 0, ptr pk 0, .slice da dn dc, ptr pp 0, ptr po 0, .slice wa wn wc, .int .i64 chunk, .int .i64 tv, .int .i64 sv] 146
abbrev fnV (f : FuncId) : Value := .func (.func f) #[] #[]
abbrev wkB (c pM : Nat) (who draw : Int) (next : Value) (at_ to tA tF tT : Int) (scans : Bool) (push : Int) (then_ call : Value) (victim low seen : Int) : HP :=
  blk c [ptr pM 0, .int .i64 who, .int .i64 draw, next, .int .i64 at_, .int .i64 to, .int .i64 tA, .int .i64 tF, .int .i64 tT, .bool scans, .int .i64 push, then_, call, .int .i64 victim, .int .i64 low, .int .i64 seen] 163
section ops
variable {pM p pr pk pp po c dn dc wn wc : Nat} {da wa : Option Addr} {chunk tv sv who draw at_ to tA tF tT push victim low seen : Int} {next then_ call : Value} {scans : Bool}
theorem laid_spec (ft : FuncId) : Does Tryz.prog 175 [ptr c 0] [wkB c pM who draw next at_ to tA tF tT scans push (fnV ft) call victim low seen]
    (fun v l => v = .tuple #[] ∧ l = [wkB c pM who draw (fnV ft) at_ to tA tF tT scans 0 (fnV ft) call victim low seen]) := by
  refine Does.of tiok Tryz.func175 (by kernel_rfl) rfl Tryz.ntmps175 rfl ?_
  intro W fr
  repeat' (first | refine Wka ?_ | intro _ | apply And.intro)
  exact At_end rfl rfl .nil rfl (is := [0]) rfl ⟨rfl, rfl⟩
theorem idle_spec {qc qw qi : Nat} {cnt : Int} {idle : List Bool} (i : Nat) (h : i < idle.length) (hi : idle[i]? = some false) (hn : idle.length ≤ 64) (hc : 0 ≤ cnt) (hc2 : cnt ≤ 1000000) (ht : In64 (tv + 1)) :
    Does Tryz.prog 166 [ptr c 0] (wkB c pM i draw next at_ to tA tF tT scans push then_ call victim low seen :: mkB pM p pr pk pp po da dn dc wa wn wc chunk tv sv :: Of.offerZ po qc qw qi cnt idle)
    (fun v l => v = .tuple #[] ∧ l = wkB c pM i draw (fnV 183) at_ to tA tF tT scans push then_ call victim low seen :: mkB pM p pr pk pp po da dn dc wa wn wc chunk (tv + 1) sv :: Of.offerZ po qc qw qi (cnt + 1) (idle.set i true)) := by
  obtain ⟨ht1, ht2⟩ := ht
  refine Does.of tiok Tryz.func166 (by kernel_rfl) rfl Tryz.ntmps166 rfl ?_
  intro W fr
  repeat' (first | refine Wka ?_ | intro _ | apply And.intro)
  refine J_draw [0, 0, 0, 1, 0, 0, 1, 0, 0, 0, 1, 2] (List.range 12) (by kernel_rfl) (by kernel_rfl) ?_
  repeat' (first | refine Wkd ?_ | intro _ | apply And.intro)
  refine JX_l rfl rfl (OL_call [2, 2, 2] rfl rfl rfl (Of.Offer_ok i h hi hn hc hc2) rfl) rfl rfl ?_
  rintro _ _ ⟨_, ⟨rfl, rfl⟩, rfl⟩
  repeat' (first | refine Wkd ?_ | intro _ | apply And.intro)
  repeat' (first | refine Wka ?_ | intro _ | apply And.intro)
  exact At_end rfl rfl .nil rfl (is := [0, 3, 0, 0, 0]) rfl ⟨rfl, rfl⟩
theorem look_spec {qc qw qi : Nat} {cnt : Int} {idle : List Bool} (i : Nat) (h : i < idle.length) (hn : idle.length ≤ 64) (ht : In64 (tv + 1)) :
    Does Tryz.prog 183 [ptr c 0] (wkB c pM i draw next at_ to tA tF tT scans push then_ call victim low seen :: mkB pM p pr pk pp po da dn dc wa wn wc chunk tv sv :: Of.offerZ po qc qw qi cnt idle)
    (fun v l => v = .tuple #[] ∧ l = wkB c pM i draw (fnV 193) at_ to tA tF tT scans push then_ call 0 low cnt :: mkB pM p pr pk pp po da dn dc wa wn wc chunk (tv + 1) sv :: Of.offerZ po qc qw qi cnt idle) := by
  obtain ⟨ht1, ht2⟩ := ht
  refine Does.of tiok Tryz.func183 (by kernel_rfl) rfl Tryz.ntmps183 rfl ?_
  intro W fr
  repeat' (first | refine Wka ?_ | intro _ | apply And.intro)
  refine J_draw [0, 0, 0, 0, 1, 0, 0, 1, 0, 0, 0, 1, 2, 0, 0, 0, 0, 0, 2] (List.range 19) (by kernel_rfl) (by kernel_rfl) ?_
  repeat' (first | refine Wkd ?_ | intro _ | apply And.intro)
  refine JX_l rfl rfl (OL_call [2, 2, 2] rfl rfl rfl (Of.Look_ok i h hn) rfl) rfl rfl ?_
  rintro _ _ ⟨_, ⟨rfl, rfl⟩, rfl⟩
  repeat' (first | refine Wkd ?_ | intro _ | apply And.intro)
  repeat' (first | refine Wka ?_ | intro _ | apply And.intro)
  exact At_end rfl rfl .nil rfl (is := [0, 3, 0, 0, 0]) rfl ⟨rfl, rfl⟩
theorem claim_ok {rc rw : Nat} {n : Int} {ar : Option Addr} {cr : Nat} {rs : List Int} {part : Int} (h1 : 0 ≤ who) (h2 : who < 64) (hn : 0 ≤ n) (hn2 : n ≤ 1000000000000) (hp1 : 1 ≤ part) (hp2 : part ≤ 64) (he : n * part < (rs.length : Int)) (ht : In64 (tv + 1)) :
    Does Tryz.prog 72 [ptr c 0] (wkB c pM who draw next at_ to tA tF tT scans push then_ call victim low seen :: mkB pM p pr pk pp po da dn dc wa wn wc chunk tv sv :: Rt.rootsZ pr rc rw n ar cr rs part)
    (fun v l => v = .tuple #[] ∧ l = wkB c pM who draw (fnV 103) (n * part) (if (rs.length : Int) < n * part + part then rs.length else n * part + part) tA tF tT scans push then_ call victim low seen :: mkB pM p pr pk pp po da dn dc wa wn wc chunk (tv + 1) sv :: Rt.rootsZ pr rc rw (n + 1) ar cr rs part) := by
  obtain ⟨ht1, ht2⟩ := ht
  refine Does.of tiok Tryz.func72 (by kernel_rfl) rfl Tryz.ntmps72 rfl ?_
  intro W fr
  repeat' (first | refine Wka ?_ | intro _ | apply And.intro)
  refine J_draw [0, 0, 0, 1, 0, 0, 1, 0, 0, 0, 1, 2, 0, 0, 0, 0, 0, 0, 0] (List.range 19) (by kernel_rfl) (by kernel_rfl) ?_
  repeat' (first | refine Wkd ?_ | intro _ | apply And.intro)
  refine JX_l rfl rfl (OL_call [2, 2, 2] rfl rfl rfl (Rt.Claim_ok who n h1 h2 hn hn2 hp1 hp2 he) rfl) rfl rfl ?_
  rintro _ _ ⟨_, ⟨rfl, rfl⟩, rfl⟩
  repeat' (first | refine Wkd ?_ | intro _ | apply And.intro)
  repeat' (first | refine Wka ?_ | intro _ | apply And.intro)
  exact At_end rfl rfl .nil rfl (is := [0, 0, 0, 0, 0]) rfl ⟨rfl, rfl⟩
theorem claim_none {rc rw : Nat} {n : Int} {ar : Option Addr} {cr : Nat} {rs : List Int} {part : Int} (h1 : 0 ≤ who) (h2 : who < 64) (hn : 0 ≤ n) (hn2 : n ≤ 1000000000000) (hp1 : 1 ≤ part) (hp2 : part ≤ 64) (he : (rs.length : Int) ≤ n * part) (ht : In64 (tv + 1)) :
    Does Tryz.prog 72 [ptr c 0] (wkB c pM who draw next at_ to tA tF tT scans push then_ call victim low seen :: mkB pM p pr pk pp po da dn dc wa wn wc chunk tv sv :: Rt.rootsZ pr rc rw n ar cr rs part)
    (fun v l => v = .tuple #[] ∧ l = wkB c pM who draw (fnV 104) 0 0 tA tF tT scans push then_ call victim low seen :: mkB pM p pr pk pp po da dn dc wa wn wc chunk (tv + 1) sv :: Rt.rootsZ pr rc rw (n + 1) ar cr rs part) := by
  obtain ⟨ht1, ht2⟩ := ht
  refine Does.of tiok Tryz.func72 (by kernel_rfl) rfl Tryz.ntmps72 rfl ?_
  intro W fr
  repeat' (first | refine Wka ?_ | intro _ | apply And.intro)
  refine J_draw [0, 0, 0, 1, 0, 0, 1, 0, 0, 0, 1, 2, 0, 0, 0, 0, 0, 0, 0] (List.range 19) (by kernel_rfl) (by kernel_rfl) ?_
  repeat' (first | refine Wkd ?_ | intro _ | apply And.intro)
  refine JX_l rfl rfl (OL_call [2, 2, 2] rfl rfl rfl (Rt.Claim_empty who n h1 h2 hn hn2 hp1 hp2 he) rfl) rfl rfl ?_
  rintro _ _ ⟨_, ⟨rfl, rfl⟩, rfl⟩
  repeat' (first | refine Wkd ?_ | intro _ | apply And.intro)
  repeat' (first | refine Wka ?_ | intro _ | apply And.intro)
  exact At_end rfl rfl .nil rfl (is := [0, 0, 0, 0, 0]) rfl ⟨rfl, rfl⟩
end ops
end Go.Proofs.YtfmkjbmogfhpbaaGreatDoor.Mk
set_option maxRecDepth 8000
namespace Go.Proofs.YtfmkjbmogfhpbaaGreatDoor.Mk
open Go.Sep
structure TK where
  a : Nat
  f : Nat
  t : Nat
structure TK.Ok (x : TK) : Prop where
  a1 : x.a < 65536
  ft : x.f ≤ x.t
  t1 : x.t ≤ 4095
abbrev tkV (x : TK) : Value := .agg #[.int .i64 x.a, .int .i64 x.f, .int .i64 x.t]
def pkT (x : TK) : Nat := 1 + x.a + 65536 * x.f + 268435456 * x.t
theorem pkT_bd {x : TK} (h : x.Ok) : 0 < pkT x ∧ pkT x < 1099511627777 := by
  have := h.a1; have := h.ft; have := h.t1
  unfold pkT
  omega
theorem taskGood {x : TK} (h : x.Ok) : Does Tryz.prog 173 [tkV x] [] (fun v l => v = .bool true ∧ l = []) := by
  have h1 := h.a1
  have h2 := h.ft
  have h3 := h.t1
  refine Does.of tiok Tryz.func173 (by kernel_rfl) rfl Tryz.ntmps173 rfl ?_
  intro W fr
  repeat' (first | refine Wka ?_ | intro _ | apply And.intro)
  exact At_ret rfl rfl (.tmp rfl .nil) rfl (is := []) rfl ⟨by simp [retV]; omega, rfl⟩
theorem taskLen {x : TK} (h : x.Ok) : Does Tryz.prog 180 [tkV x] [] (fun v l => v = .int .i64 ((x.t - x.f : Nat) : Int) ∧ l = []) := by
  have h1 := h.a1
  have h2 := h.ft
  have h3 := h.t1
  rw [show ((x.t - x.f : Nat) : Int) = (x.t : Int) - (x.f : Int) by omega]
  refine Does.of tiok Tryz.func180 (by kernel_rfl) rfl Tryz.ntmps180 rfl ?_
  intro W fr
  repeat' (first | refine Wka ?_ | intro _ | apply And.intro)
  exact At_ret rfl rfl (.tmp rfl .nil) rfl (is := []) rfl ⟨rfl, rfl⟩
theorem taskPack {x : TK} (h : x.Ok) : Does Tryz.prog 156 [tkV x] [] (fun v l => v = .tuple #[.int .i64 (pkT x : Nat), .int .i64 0] ∧ l = []) := by
  have h1 := h.a1
  have h2 := h.ft
  have h3 := h.t1
  have he : ((pkT x : Nat) : Int) = 1 + (x.a : Int) + 65536 * (x.f : Int) + 268435456 * (x.t : Int) := by unfold pkT; omega
  rw [he]
  refine Does.of tiok Tryz.func156 (by kernel_rfl) rfl Tryz.ntmps156 rfl ?_
  intro W fr
  repeat' (first | refine Wka ?_ | intro _ | apply And.intro)
  refine JO_l (OL_call [] rfl rfl rfl (taskGood h) rfl) rfl rfl ?_; rintro _ _ ⟨_, ⟨rfl, rfl⟩, rfl⟩
  repeat' (first | refine Wka ?_ | intro _ | apply And.intro)
  exact At_ret rfl rfl (.tmp rfl (.tmp rfl .nil)) rfl (is := []) rfl ⟨rfl, rfl⟩
theorem taskUnpack {x : TK} (h : x.Ok) : Does Tryz.prog 162 [.int .i64 (pkT x : Nat)] [] (fun v l => v = .tuple #[tkV x, .int .i64 0] ∧ l = []) := by
  have h1 := h.a1
  have h2 := h.ft
  have h3 := h.t1
  obtain ⟨hp1, hp2⟩ := pkT_bd h
  have hd : ((pkT x : Nat) : Int) - 1 = (x.a : Int) + 65536 * (x.f : Int) + 268435456 * (x.t : Int) := by unfold pkT; omega
  have ea : ((pkT x : Int) - 1) % 65536 = (x.a : Int) := by rw [hd]; omega
  have ef : ((pkT x : Int) - 1) / 65536 % 4096 = (x.f : Int) := by rw [hd]; omega
  have et : ((pkT x : Int) - 1) / 268435456 = (x.t : Int) := by rw [hd]; omega
  refine Does.of tiok Tryz.func162 (by kernel_rfl) rfl Tryz.ntmps162 rfl ?_
  intro W fr
  repeat' (first | refine Wka ?_ | intro _ | apply And.intro)
  rw [ea, ef, et]
  refine JO_l (OL_call [] rfl rfl rfl (taskGood h) rfl) rfl rfl ?_; rintro _ _ ⟨_, ⟨rfl, rfl⟩, rfl⟩
  repeat' (first | refine Wka ?_ | intro _ | apply And.intro)
  exact At_ret rfl rfl (.agg rfl rfl rfl Mmt (by rfl) (.tmp rfl .nil)) rfl (is := []) rfl ⟨rfl, rfl⟩
abbrev cellsK (x : TK) : List Value := [.int .i64 x.a, .int .i64 x.f, .int .i64 x.t]
abbrev tksV (l : List TK) : List Value := l.flatMap cellsK
theorem tks_snoc {l : List TK} {y : TK} : tksV (l ++ [y]) = tksV l ++ cellsK y := by simp [tksV]
set_option maxHeartbeats 4000000 in
theorem taskSplit {x : TK} (h : x.Ok) (K : Nat) (hK : 1 ≤ K) (hK2 : K ≤ 65536) : Does Tryz.prog 163 [tkV x, .int .i64 K] []
    (fun v l => ∃ (pl : List TK) (a' : Option Addr) (cap' : Nat), pl[0]? = some ⟨x.a, x.f, min x.t (x.f + K)⟩ ∧ (1 < pl.length ↔ x.f + K < x.t) ∧ pl.length ≤ 5000 ∧ v = .slice a' pl.length cap' ∧ l = [rowz 159 3 a' pl.length cap' (tksV pl)]) := by
  obtain ⟨xa, xf, xt⟩ := x
  obtain ⟨h1, h2, h3⟩ := h
  dsimp only at h1 h2 h3 ⊢
  refine Does.of tiok Tryz.func163 (by kernel_rfl) rfl Tryz.ntmps163 rfl ?_
  intro W fr
  repeat' (first | refine Wka ?_ | intro _ | apply And.intro)
  rename_i b2
  rw [show (if (K : Int) < 1 then (1 : Int) else (K : Int)) = (K : Int) by rw [if_neg (by omega)]]
  refine J_loop (α := List TK × Nat × Option Addr × Nat) (fun y => xf ≤ y.2.1 ∧ y.2.1 ≤ xt ∧ y.1.length + xf ≤ y.2.1 ∧ ((y.1 = [] ∧ y.2.1 = xf) ∨ (y.1[0]? = some ⟨xa, xf, xf + K⟩ ∧ xf + K ≤ y.2.1 ∧ y.2.1 < xt)))
    (fun y => [(1, .int .i64 K), (2, ptr b2 0), (5, .slice y.2.2.1 y.1.length y.2.2.2)]) (fun y => [rowz 159 3 y.2.2.1 y.1.length y.2.2.2 (tksV y.1), blk b2 [.int .i64 xa, .int .i64 y.2.1, .int .i64 xt] 159])
    (fun y => xt - y.2.1) ([], xf, none, 0) ⟨Nat.le_refl _, h2, by simp, .inl ⟨rfl, rfl⟩⟩ Sgt (fun H hl => rowz_nil hl) ?_
  rintro ⟨pl, f', a', cap⟩ ⟨e1, e2, e3, e4⟩
  dsimp only at e1 e2 e3 e4 ⊢
  repeat' (first | refine Wkb ?_ | intro _ | apply And.intro)
  refine JO_l (OL_call [] rfl rfl rfl (taskLen (x := ⟨xa, f', xt⟩) ⟨h1, e2, h3⟩) rfl) rfl rfl ?_
  rintro _ _ ⟨_, ⟨rfl, rfl⟩, rfl⟩
  repeat' (first | refine Wkb ?_ | intro _ | apply And.intro)
  · rename_i hlt
    refine J_block ?_
    repeat' (first | refine Wka ?_ | intro _ | apply And.intro)
    refine JO_l (OL_buildSlice (cs := [.int .i64 xa, .int .i64 f', .int .i64 ((f' : Int) + (K : Int))]) rfl rfl rfl rfl rfl rfl rfl rfl) rfl rfl ?_
    rintro _ _ ⟨bb, rfl, rfl⟩
    refine JO_l (OL_appendr (m := 1) rfl rfl rfl rfl rfl P1 ((Reads.blk rfl).src (.head _)) rfl rfl (fun _ h => by cases h) (by omega) (by omega) (by decide)) rfl rfl ?_
    rintro _ _ ⟨a2, cap2, rfl, rfl⟩
    rw [show pl.length + 1 = (pl ++ [(⟨xa, f', f' + K⟩ : TK)]).length by simp]
    repeat' (first | refine Wka ?_ | intro _ | apply And.intro)
    have hlt : (K : Int) < ((xt - f' : Nat) : Int) := hlt
    refine At_round (pl ++ [⟨xa, f', f' + K⟩], f' + K, a2, cap2) (by show xt - (f' + K) < xt - f'; omega) ⟨by show xf ≤ f' + K; omega, by show f' + K ≤ xt; omega, ?_, .inr ⟨?_, ?_, by show f' + K < xt; omega⟩⟩ Sgt (fun H hl => ?_)
    · show (pl ++ [(⟨xa, f', f' + K⟩ : TK)]).length + xf ≤ f' + K
      rw [List.length_append, List.length_singleton]; omega
    · show (pl ++ [(⟨xa, f', f' + K⟩ : TK)])[0]? = _
      rcases e4 with ⟨rfl, rfl⟩ | ⟨e4, _, _⟩
      · rfl
      · rw [List.getElem?_append_left (List.getElem?_eq_some_iff.1 e4).1]; exact e4
    · show xf + K ≤ f' + K
      omega
    · dsimp only
      rw [tks_snoc]
      exact hl.pick (is := [1, 0]) rfl
  · rename_i hge
    have hge : ¬ (K : Int) < ((xt - f' : Nat) : Int) := hge
    repeat' (first | refine Wka ?_ | intro _ | apply And.intro)
    refine JO_l (OL_buildSlice (cs := [.int .i64 xa, .int .i64 f', .int .i64 xt]) rfl rfl rfl rfl rfl rfl rfl rfl) rfl rfl ?_
    rintro _ _ ⟨bb, rfl, rfl⟩
    refine JO_l (OL_appendr (m := 1) rfl rfl rfl rfl rfl P1 ((Reads.blk rfl).src (.head _)) rfl rfl (fun _ h => by cases h) (by omega) (by omega) (by decide)) rfl rfl ?_
    rintro _ _ ⟨a2, cap2, rfl, rfl⟩
    repeat' (first | refine Wka ?_ | intro _ | apply And.intro)
    refine At_ret rfl rfl (.tmp rfl .nil) rfl (is := [0]) rfl ⟨pl ++ [⟨xa, f', xt⟩], a2, cap2, ?_, ?_, ?_, ?_, ?_⟩
    · rcases e4 with ⟨rfl, rfl⟩ | ⟨e4, e5, e6⟩
      · rw [show min xt (f' + K) = xt by omega]; rfl
      · rw [List.getElem?_append_left (List.getElem?_eq_some_iff.1 e4).1, e4, show min xt (xf + K) = xf + K by omega]
    · rw [List.length_append, List.length_singleton]
      rcases e4 with ⟨rfl, rfl⟩ | ⟨e4, e5, e6⟩
      · simp; omega
      · have := (List.getElem?_eq_some_iff.1 e4).1
        omega
    · rw [List.length_append, List.length_singleton]; omega
    · rw [List.length_append, List.length_singleton]; rfl
    · rw [List.length_append, List.length_singleton, tks_snoc]
end Go.Proofs.YtfmkjbmogfhpbaaGreatDoor.Mk
set_option maxRecDepth 8000
namespace Go.Proofs.YtfmkjbmogfhpbaaGreatDoor.Mk
open Go.Sep
section ops
variable {pM p pr pk pp po c dn dc wn wc : Nat} {da wa : Option Addr} {chunk tv sv who draw at_ to tA tF tT push victim low seen : Int} {next then_ call : Value} {scans : Bool}
theorem back_ok {qc qw qi : Nat} {cnt : Int} {idle : List Bool} (i : Nat) (hi : idle[i]? = some true) (hc0 : 1 ≤ cnt) (hc1 : cnt < idle.length) (hn : idle.length ≤ 64) (ht : In64 (tv + 1)) :
    Does Tryz.prog 199 [ptr c 0] (wkB c pM i draw next at_ to tA tF tT scans push then_ call victim low cnt :: mkB pM p pr pk pp po da dn dc wa wn wc chunk tv sv :: Of.offerZ po qc qw qi cnt idle)
    (fun v l => v = .tuple #[] ∧ l = wkB c pM i draw (fnV 123) at_ to tA tF tT scans push then_ call victim low cnt :: mkB pM p pr pk pp po da dn dc wa wn wc chunk (tv + 1) sv :: Of.offerZ po qc qw qi (cnt - 1) (idle.set i false)) := by
  obtain ⟨ht1, ht2⟩ := ht
  have hB := Of.Back_ok (p := po) (pc := qc) (bw := qw) (bi := qi) (cnt := cnt) i cnt hi (by omega) (by omega) (by omega) hn
  rw [if_pos rfl, if_pos rfl, wrap_id (by omega) (by omega), show (!decide (cnt = cnt)) = false by simp] at hB
  refine Does.of tiok Tryz.func199 (by kernel_rfl) rfl Tryz.ntmps199 rfl ?_
  intro W fr
  repeat' (first | refine Wka ?_ | intro _ | apply And.intro)
  refine J_draw [0, 0, 0, 1, 0, 0, 1, 0, 0, 0, 1, 0, 0, 0, 1, 2, 0] (List.range 17) (by kernel_rfl) (by kernel_rfl) ?_
  repeat' (first | refine Wkd ?_ | intro _ | apply And.intro)
  refine JX_l rfl rfl (OL_call [2, 2, 2] rfl rfl rfl hB rfl) rfl rfl ?_
  rintro _ _ ⟨_, ⟨rfl, rfl⟩, rfl⟩
  repeat' (first | refine Wkd ?_ | intro _ | apply And.intro)
  repeat' (first | refine Wka ?_ | intro _ | apply And.intro)
  all_goals first | exact At_end rfl rfl .nil rfl (is := [0, 3, 0, 0, 0]) rfl ⟨rfl, rfl⟩ | (rename_i hx; exact absurd rfl hx)
theorem back_no {qc qw qi : Nat} {cnt : Int} {idle : List Bool} (i : Nat) (hi : idle[i]? = some true) (hs : seen ≠ cnt) (hs1 : seen ≠ idle.length) (hs2 : -1000000 ≤ seen) (hs3 : seen ≤ 1000000) (hn : idle.length ≤ 64) (ht : In64 (tv + 1)) :
    Does Tryz.prog 199 [ptr c 0] (wkB c pM i draw next at_ to tA tF tT scans push then_ call victim low seen :: mkB pM p pr pk pp po da dn dc wa wn wc chunk tv sv :: Of.offerZ po qc qw qi cnt idle)
    (fun v l => v = .tuple #[] ∧ l = wkB c pM i draw (fnV 183) at_ to tA tF tT scans push then_ call victim low seen :: mkB pM p pr pk pp po da dn dc wa wn wc chunk (tv + 1) sv :: Of.offerZ po qc qw qi cnt idle) := by
  obtain ⟨ht1, ht2⟩ := ht
  have hB := Of.Back_ok (p := po) (pc := qc) (bw := qw) (bi := qi) (cnt := cnt) i seen hi hs1 (by omega) (by omega) hn
  have he : idle.set i (!decide (cnt = seen)) = idle := by
    obtain ⟨h1, h2⟩ := List.getElem?_eq_some_iff.1 hi
    rw [show (!decide (cnt = seen)) = idle[i] by rw [h2, decide_eq_false (fun e => hs e.symm)]; rfl]
    exact List.set_getElem_self h1
  rw [if_neg (fun e => hs e.symm), if_neg (fun e => hs e.symm), he] at hB
  refine Does.of tiok Tryz.func199 (by kernel_rfl) rfl Tryz.ntmps199 rfl ?_
  intro W fr
  repeat' (first | refine Wka ?_ | intro _ | apply And.intro)
  refine J_draw [0, 0, 0, 1, 0, 0, 1, 0, 0, 0, 1, 0, 0, 0, 1, 2, 0] (List.range 17) (by kernel_rfl) (by kernel_rfl) ?_
  repeat' (first | refine Wkd ?_ | intro _ | apply And.intro)
  refine JX_l rfl rfl (OL_call [2, 2, 2] rfl rfl rfl hB rfl) rfl rfl ?_
  rintro _ _ ⟨_, ⟨rfl, rfl⟩, rfl⟩
  repeat' (first | refine Wkd ?_ | intro _ | apply And.intro)
  repeat' (first | refine Wka ?_ | intro _ | apply And.intro)
  all_goals first | exact At_end rfl rfl .nil rfl (is := [3, 3, 0, 0, 0]) rfl ⟨rfl, rfl⟩ | (rename_i hx; exact absurd hx (by decide))
end ops
end Go.Proofs.YtfmkjbmogfhpbaaGreatDoor.Mk
set_option maxRecDepth 8000
namespace Go.Proofs.YtfmkjbmogfhpbaaGreatDoor.Mk
open Go.Sep
abbrev dqI (cc : Nat) : Value := .iface 231 (ptr cc 0)
section ops
variable {pM p pr pk pp po c dn dc wn wc : Nat} {da wa : Option Addr} {chunk tv sv who draw at_ to tA tF tT push victim low seen : Int} {next then_ call : Value} {scans : Bool}
set_option maxHeartbeats 4000000 in
theorem lay_spec {R : HP} {cs : List Value} (i dq : Nat) (x : TK) (hx : x.Ok) (ft : FuncId) (hR : Reads R 1 dn da dc cs) (hd : cs[i]? = some (ptr dq 0)) (hi : i < dn) :
    Does Tryz.prog 141 [ptr c 0, tkV x, fnV ft] (wkB c pM i draw next at_ to tA tF tT scans push then_ call victim low seen :: mkB pM p pr pk pp po da dn dc wa wn wc chunk tv sv :: [R])
    (fun v l => ∃ cc, v = .tuple #[] ∧ l = wkB c pM i draw (fnV 158) at_ to tA tF tT scans (pkT x : Nat) (fnV ft) (dqI cc) victim low seen :: dcL cc dq 0 (nx 174) 0 0 (pkT x : Nat) 0 :: mkB pM p pr pk pp po da dn dc wa wn wc chunk tv sv :: [R]) := by
  refine Does.of tiok Tryz.func141 (by kernel_rfl) rfl Tryz.ntmps141 rfl ?_
  intro W fr
  refine J_fact _ (fun w hs => hR.some (by omega) hs Mmt) ?_
  rintro ⟨bo, oo, rfl⟩
  repeat' (first | refine Wka ?_ | intro _ | apply And.intro)
  refine JO_l (OL_call [] rfl rfl rfl (taskPack hx) rfl) rfl rfl ?_; rintro _ _ ⟨_, ⟨rfl, rfl⟩, rfl⟩
  repeat' (first | refine Wka ?_ | intro _ | apply And.intro)
  refine J_draw [0, 0, 0, 0, 1, 0, 0, 1, 0, 0, 0, 1, 0, 1, 0, 0, 0, 1, 2, 0, 0, 0, 2] (List.range 23) (by kernel_rfl) (by kernel_rfl) ?_
  repeat' (first | refine Wkd ?_ | intro _ | apply And.intro)
  refine JX_val rfl rfl (OV_idx (off := oo + i) rfl rfl rfl rfl (by omega) (by omega) (by omega)) rfl rfl ?_
  refine JX_q rfl rfl (OQ_read (i := i) (v := ptr dq 0) hR Mmt rfl rfl (by omega) hd) rfl rfl ?_
  repeat' (first | refine Wkd ?_ | intro _ | apply And.intro)
  refine JX_l rfl rfl (OL_call [] rfl rfl rfl (Push_spec (pkT x : Nat)) rfl) rfl rfl ?_
  rintro _ _ ⟨_, ⟨cc, rfl, rfl⟩, rfl⟩
  refine JX_val rfl rfl (OV_iface rfl Tryz.underlying231) rfl rfl ?_
  repeat' (first | refine Wkd ?_ | intro _ | apply And.intro)
  repeat' (first | refine Wka ?_ | intro _ | apply And.intro)
  exact At_end rfl rfl .nil rfl (is := [0, 0, 1, 1]) rfl ⟨cc, rfl, rfl⟩
abbrev spI (cc : Nat) : Value := .iface 265 (ptr cc 0)
theorem pushing_spec {cc : Nat} {D : List HP} {Pm : List HP → Prop} {Pd : Int → List HP → Prop} (ft : FuncId) (hw : 0 ≤ who ∧ who < 64) (ht : In64 (tv + 1)) (hS : Does Tryz.prog 229 [ptr cc 0] D (fun v l => (v = .bool false ∧ Pm l) ∨ (∃ e, v = .bool true ∧ Pd e l)))
    (hR : ∀ e l, Pd e l → ∃ w, Does Tryz.prog 228 [ptr cc 0] l (fun v l' => v = .tuple #[.int .i64 w, .int .i64 e] ∧ l' = l)) :
    Does Tryz.prog 158 [ptr c 0] (wkB c pM who draw next at_ to tA tF tT scans push (fnV ft) (dqI cc) victim low seen :: mkB pM p pr pk pp po da dn dc wa wn wc chunk tv sv :: D)
    (fun v l => v = .tuple #[] ∧ ∃ D', ((Pm D' ∧ l = wkB c pM who draw next at_ to tA tF tT scans push (fnV ft) (dqI cc) victim low seen :: mkB pM p pr pk pp po da dn dc wa wn wc chunk (tv + 1) sv :: D') ∨
      (Pd 0 D' ∧ l = wkB c pM who draw (fnV ft) at_ to tA tF tT scans 0 (fnV ft) .nilIface victim low seen :: mkB pM p pr pk pp po da dn dc wa wn wc chunk (tv + 1) sv :: D') ∨
      (∃ e sc, e ≠ 0 ∧ Pd e D' ∧ l = Sp.scL sc pp who true 0 0 push false 0 :: wkB c pM who draw (fnV 177) at_ to tA tF tT scans push (fnV ft) (spI sc) victim low seen :: mkB pM p pr pk pp po da dn dc wa wn wc chunk (tv + 1) sv :: D'))) := by
  obtain ⟨ht1, ht2⟩ := ht
  refine Does.of tiok Tryz.func158 (by kernel_rfl) rfl Tryz.ntmps158 rfl ?_
  intro W fr
  repeat' (first | refine Wka ?_ | intro _ | apply And.intro)
  refine JO_l (OL_invokeP (r := [mkB pM p pr pk pp po da dn dc wa wn wc chunk (tv + 1) sv, wkB c pM who draw next at_ to tA tF tT scans push (fnV ft) (dqI cc) victim low seen]) rfl rfl (by kernel_rfl) Tryz.underlying231 hS (List.perm_append_comm (l₁ := [_, _]))) rfl rfl ?_
  rintro _ _ ⟨D', ⟨rfl, hP⟩ | ⟨e, rfl, hP⟩, rfl⟩
  · refine JO_hp (l' := wkB c pM who draw next at_ to tA tF tT scans push (fnV ft) (dqI cc) victim low seen :: mkB pM p pr pk pp po da dn dc wa wn wc chunk (tv + 1) sv :: D') (fun H hl => hl.perm ((List.perm_append_comm (l₂ := [_, _])).trans (List.Perm.swap _ _ _))) ?_
    repeat' (first | refine Wka ?_ | intro _ | apply And.intro)
    exact At_end' rfl rfl .nil rfl (fun H hl => hl) ⟨rfl, D', .inl ⟨hP, rfl⟩⟩
  · refine JO_hp (l' := wkB c pM who draw next at_ to tA tF tT scans push (fnV ft) (dqI cc) victim low seen :: mkB pM p pr pk pp po da dn dc wa wn wc chunk (tv + 1) sv :: D') (fun H hl => hl.perm ((List.perm_append_comm (l₂ := [_, _])).trans (List.Perm.swap _ _ _))) ?_
    obtain ⟨w, hRR⟩ := hR e D' hP
    repeat' (first | refine Wka ?_ | intro _ | apply And.intro)
    refine JO_l (OL_invokeP (r := [wkB c pM who draw next at_ to tA tF tT scans push (fnV ft) (dqI cc) victim low seen, mkB pM p pr pk pp po da dn dc wa wn wc chunk (tv + 1) sv]) rfl rfl (by kernel_rfl) Tryz.underlying231 hRR (List.perm_append_comm (l₁ := [_, _]))) rfl rfl ?_
    rintro _ _ ⟨D', ⟨rfl, rfl⟩, rfl⟩
    refine JO_hp (l' := wkB c pM who draw next at_ to tA tF tT scans push (fnV ft) (dqI cc) victim low seen :: mkB pM p pr pk pp po da dn dc wa wn wc chunk (tv + 1) sv :: D') (fun H hl => hl.perm (List.perm_append_comm (l₂ := [_, _]))) ?_
    repeat' (first | refine Wka ?_ | intro _ | apply And.intro)
    · refine JO_l (OL_call [0] rfl rfl rfl (laid_spec ft) rfl) rfl rfl ?_
      rintro _ _ ⟨_, ⟨rfl, rfl⟩, rfl⟩
      repeat' (first | refine Wka ?_ | intro _ | apply And.intro)
      rename_i he
      subst he
      exact At_end' rfl rfl .nil rfl (fun H hl => hl) ⟨rfl, D', .inr (.inl ⟨hP, rfl⟩)⟩
    · rename_i he
      refine J_draw [0, 0, 0, 0, 1, 0, 0, 1, 0, 0, 0, 1, 0, 0, 0, 1, 2, 0, 0, 0, 0, 0, 0, 2] (List.range 24) (by kernel_rfl) (by kernel_rfl) ?_
      repeat' (first | refine Wkd ?_ | intro _ | apply And.intro)
      refine JX_l rfl rfl (OL_call [] rfl rfl rfl (Sp.Put_ok who push hw) rfl) rfl rfl ?_
      rintro _ _ ⟨_, ⟨sc, rfl, rfl⟩, rfl⟩
      repeat' (first | refine Wkd ?_ | intro _ | apply And.intro)
      refine JX_val rfl rfl (OV_iface rfl Tryz.underlying265) rfl rfl ?_
      repeat' (first | refine Wkd ?_ | intro _ | apply And.intro)
      repeat' (first | refine Wka ?_ | intro _ | apply And.intro)
      exact At_end' rfl rfl .nil rfl (fun H hl => hl.perm (picks_perm (is := [1, 0]) rfl)) ⟨rfl, D', .inr (.inr ⟨e, sc, he, hP, rfl⟩)⟩
end ops
end Go.Proofs.YtfmkjbmogfhpbaaGreatDoor.Mk
set_option maxRecDepth 8000
namespace Go.Proofs.YtfmkjbmogfhpbaaGreatDoor.Mk
open Go.Sep
section ops
variable {pM p pr pk pp po c dn dc wn wc : Nat} {da wa : Option Addr} {chunk tv sv who draw at_ to tA tF tT push victim low seen : Int} {next then_ call : Value} {scans : Bool}
theorem spilling_spec {cc : Nat} {D : List HP} {Pm Pd : List HP → Prop} (ft : FuncId) (ht : In64 (tv + 1)) (hS : Does Tryz.prog 232 [ptr cc 0] D (fun v l => (v = .bool false ∧ Pm l) ∨ (v = .bool true ∧ Pd l))) :
    Does Tryz.prog 177 [ptr c 0] (wkB c pM who draw next at_ to tA tF tT scans push (fnV ft) (spI cc) victim low seen :: mkB pM p pr pk pp po da dn dc wa wn wc chunk tv sv :: D)
    (fun v l => v = .tuple #[] ∧ ∃ D', ((Pm D' ∧ l = wkB c pM who draw next at_ to tA tF tT scans push (fnV ft) (spI cc) victim low seen :: mkB pM p pr pk pp po da dn dc wa wn wc chunk (tv + 1) sv :: D') ∨
      (Pd D' ∧ l = wkB c pM who draw (fnV ft) at_ to tA tF tT scans 0 (fnV ft) .nilIface victim low seen :: mkB pM p pr pk pp po da dn dc wa wn wc chunk (tv + 1) sv :: D'))) := by
  obtain ⟨ht1, ht2⟩ := ht
  refine Does.of tiok Tryz.func177 (by kernel_rfl) rfl Tryz.ntmps177 rfl ?_
  intro W fr
  repeat' (first | refine Wka ?_ | intro _ | apply And.intro)
  refine JO_l (OL_invokeP (r := [mkB pM p pr pk pp po da dn dc wa wn wc chunk (tv + 1) sv, wkB c pM who draw next at_ to tA tF tT scans push (fnV ft) (spI cc) victim low seen]) rfl rfl (by kernel_rfl) Tryz.underlying265 hS (List.perm_append_comm (l₁ := [_, _]))) rfl rfl ?_
  rintro _ _ ⟨D', ⟨rfl, hP⟩ | ⟨rfl, hP⟩, rfl⟩
  · refine JO_hp (l' := wkB c pM who draw next at_ to tA tF tT scans push (fnV ft) (spI cc) victim low seen :: mkB pM p pr pk pp po da dn dc wa wn wc chunk (tv + 1) sv :: D') (fun H hl => hl.perm ((List.perm_append_comm (l₂ := [_, _])).trans (List.Perm.swap _ _ _))) ?_
    repeat' (first | refine Wka ?_ | intro _ | apply And.intro)
    exact At_end' rfl rfl .nil rfl (fun H hl => hl) ⟨rfl, D', .inl ⟨hP, rfl⟩⟩
  · refine JO_hp (l' := wkB c pM who draw next at_ to tA tF tT scans push (fnV ft) (spI cc) victim low seen :: mkB pM p pr pk pp po da dn dc wa wn wc chunk (tv + 1) sv :: D') (fun H hl => hl.perm ((List.perm_append_comm (l₂ := [_, _])).trans (List.Perm.swap _ _ _))) ?_
    repeat' (first | refine Wka ?_ | intro _ | apply And.intro)
    refine JO_l (OL_call [0] rfl rfl rfl (laid_spec ft) rfl) rfl rfl ?_
    rintro _ _ ⟨_, ⟨rfl, rfl⟩, rfl⟩
    repeat' (first | refine Wka ?_ | intro _ | apply And.intro)
    exact At_end' rfl rfl .nil rfl (fun H hl => hl) ⟨rfl, D', .inr ⟨hP, rfl⟩⟩
end ops
end Go.Proofs.YtfmkjbmogfhpbaaGreatDoor.Mk
set_option maxRecDepth 8000
namespace Go.Proofs.YtfmkjbmogfhpbaaGreatDoor.Mk
open Go.Sep
theorem tks_take {pl : List TK} {y : TK} (h : pl[0]? = some y) : takeL (tksV pl) 0 3 = some (cellsK y) := by
  cases pl with
  | nil => cases h
  | cons z r => injection h with h; subst h; rfl
section ops
variable {pM p pr pk pp po c dn dc wn wc : Nat} {da wa : Option Addr} {tv sv who draw at_ to tA tF tT push victim low seen : Int} {next then_ call : Value} {scans : Bool}
set_option maxHeartbeats 4000000 in
theorem begin_one (K : Nat) (hK : 1 ≤ K) (hK2 : K ≤ 65536) {x : TK} (hx : x.Ok) (hn : ¬ x.f + K < x.t) :
    Does Tryz.prog 143 [ptr c 0, .int .i64 (pkT x : Nat)] [wkB c pM who draw next at_ to tA tF tT scans push then_ call victim low seen, mkB pM p pr pk pp po da dn dc wa wn wc K tv sv]
    (fun v l => v = .tuple #[] ∧ l = [wkB c pM who draw (fnV 164) at_ to x.a x.f x.t true push then_ call victim low seen, mkB pM p pr pk pp po da dn dc wa wn wc K tv sv]) := by
  refine Does.of tiok Tryz.func143 (by kernel_rfl) rfl Tryz.ntmps143 rfl ?_
  intro W fr
  repeat' (first | refine Wka ?_ | intro _ | apply And.intro)
  refine JO_l (OL_call [] rfl rfl rfl (taskUnpack hx) rfl) rfl rfl ?_; rintro _ _ ⟨_, ⟨rfl, rfl⟩, rfl⟩
  repeat' (first | refine Wka ?_ | intro _ | apply And.intro)
  refine J_draw [1, 0, 0, 0, 1, 0, 0, 1, 2, 0] (List.range 10) (by kernel_rfl) (by kernel_rfl) ?_
  repeat' (first | refine Wkd ?_ | intro _ | apply And.intro)
  refine JX_l rfl rfl (OL_call [] rfl rfl rfl (taskSplit hx K hK hK2) rfl) rfl rfl ?_
  rintro _ _ ⟨_, ⟨pl, a', cap', h0, h1, h2, rfl, rfl⟩, rfl⟩
  repeat' (first | refine Wkd ?_ | intro _ | apply And.intro)
  refine At_then_normal ?_
  rw [show min x.t (x.f + K) = x.t by omega] at h0
  have hpl := (List.getElem?_eq_some_iff.1 h0).1
  refine J_fact _ (fun w hs => rowz_len (T := 159) (sz := 3) (m := pl.length) (cap := cap') (a := a') (cs := tksV pl) hs (by simp)) ?_
  rintro ⟨hl, hnn, hcc⟩
  have hR : Reads (rowz 159 3 a' pl.length cap' (tksV pl)) 3 pl.length a' cap' (tksV pl) := Reads.rowz hl hnn
  refine J_fact _ (fun w hs => hR.some (by omega) hs (by simp)) ?_
  rintro ⟨bo, oo, rfl⟩
  repeat' (first | refine Wka ?_ | intro _ | apply And.intro)
  refine JO_val (OV_idx (off := oo + 0 * 3) rfl rfl rfl rfl (by omega) (by omega) (by omega)) rfl rfl ?_
  refine JO_q (OQ_readA (i := 0) hR Mmt rfl rfl rfl (by omega) (tks_take h0)) rfl rfl ?_
  repeat' (first | refine Wka ?_ | intro _ | apply And.intro)
  exact At_end rfl rfl .nil rfl (is := [0, 2]) rfl ⟨rfl, rfl⟩
set_option maxHeartbeats 4000000 in
theorem begin_more {R : HP} {cs : List Value} (i dq : Nat) (K : Nat) (hK : 1 ≤ K) (hK2 : K ≤ 65536) {x : TK} (hx : x.Ok) (hn : x.f + K < x.t) (hRd : Reads R 1 dn da dc cs) (hd : cs[i]? = some (ptr dq 0)) (hi : i < dn) :
    Does Tryz.prog 143 [ptr c 0, .int .i64 (pkT x : Nat)] (wkB c pM i draw next at_ to tA tF tT scans push then_ call victim low seen :: mkB pM p pr pk pp po da dn dc wa wn wc K tv sv :: [R])
    (fun v l => ∃ cc, v = .tuple #[] ∧ l = wkB c pM i draw (fnV 158) at_ to x.a x.f (x.f + K : Nat) true (pkT ⟨x.a, x.f + K, x.t⟩ : Nat) (fnV 164) (dqI cc) victim low seen :: dcL cc dq 0 (nx 174) 0 0 (pkT ⟨x.a, x.f + K, x.t⟩ : Nat) 0 :: mkB pM p pr pk pp po da dn dc wa wn wc K tv sv :: [R]) := by
  refine Does.of tiok Tryz.func143 (by kernel_rfl) rfl Tryz.ntmps143 rfl ?_
  intro W fr
  repeat' (first | refine Wka ?_ | intro _ | apply And.intro)
  refine JO_l (OL_call [] rfl rfl rfl (taskUnpack hx) rfl) rfl rfl ?_; rintro _ _ ⟨_, ⟨rfl, rfl⟩, rfl⟩
  repeat' (first | refine Wka ?_ | intro _ | apply And.intro)
  refine J_draw [1, 0, 0, 0, 1, 0, 0, 1, 2, 0] (List.range 10) (by kernel_rfl) (by kernel_rfl) ?_
  repeat' (first | refine Wkd ?_ | intro _ | apply And.intro)
  refine JX_l rfl rfl (OL_call [] rfl rfl rfl (taskSplit hx K hK hK2) rfl) rfl rfl ?_
  rintro _ _ ⟨_, ⟨pl, a', cap', h0, h1, h2, rfl, rfl⟩, rfl⟩
  repeat' (first | refine Wkd ?_ | intro _ | apply And.intro)
  refine At_then_normal ?_
  rw [show min x.t (x.f + K) = x.f + K by omega] at h0
  have hpl := (List.getElem?_eq_some_iff.1 h0).1
  refine J_fact _ (fun w hs => rowz_len (T := 159) (sz := 3) (m := pl.length) (cap := cap') (a := a') (cs := tksV pl) hs (by simp)) ?_
  rintro ⟨hl, hnn, hcc⟩
  have hR : Reads (rowz 159 3 a' pl.length cap' (tksV pl)) 3 pl.length a' cap' (tksV pl) := Reads.rowz hl hnn
  refine J_fact _ (fun w hs => hR.some (by omega) hs (by simp)) ?_
  rintro ⟨bo, oo, rfl⟩
  repeat' (first | refine Wka ?_ | intro _ | apply And.intro)
  refine JO_val (OV_idx (off := oo + 0 * 3) rfl rfl rfl rfl (by omega) (by omega) (by omega)) rfl rfl ?_
  refine JO_q (OQ_readA (i := 0) hR Mmt rfl rfl rfl (by omega) (tks_take h0)) rfl rfl ?_
  repeat' (first | refine Wka ?_ | intro _ | apply And.intro)
  refine J_draw [0, 0, 1, 0, 0, 0, 1, 0, 1, 0, 2] (List.range 11) (by kernel_rfl) (by kernel_rfl) ?_
  repeat' (first | refine Wkd ?_ | intro _ | apply And.intro)
  refine JX_val rfl rfl (OV_idx (off := oo + 0 * 3) rfl rfl rfl rfl (by omega) (by omega) (by omega)) rfl rfl ?_
  repeat' (first | refine Wkd ?_ | intro _ | apply And.intro)
  have h02 : (tksV pl)[2]? = some (.int .i64 ((x.f + K : Nat) : Int)) := by
    cases pl with
    | nil => cases h0
    | cons z r => injection h0 with h0; subst h0; rfl
  refine JX_q rfl rfl (OQ_read (i := 2) hR Mmt rfl rfl (by omega) h02) rfl rfl ?_
  repeat' (first | refine Wkd ?_ | intro _ | apply And.intro)
  refine JX_l rfl rfl (OL_call [0, 2, 2] rfl rfl rfl (lay_spec (x := ⟨x.a, x.f + K, x.t⟩) i dq ⟨hx.a1, by show x.f + K ≤ x.t; omega, hx.t1⟩ 164 hRd hd hi) rfl) rfl rfl ?_
  rintro _ _ ⟨_, ⟨cc, rfl, rfl⟩, rfl⟩
  repeat' (first | refine Wkd ?_ | intro _ | apply And.intro)
  repeat' (first | refine Wka ?_ | intro _ | apply And.intro)
  exact At_end rfl rfl .nil rfl (is := [0, 0, 0, 0]) rfl ⟨cc, rfl, rfl⟩
end ops
end Go.Proofs.YtfmkjbmogfhpbaaGreatDoor.Mk
set_option maxRecDepth 8000
namespace Go.Proofs.YtfmkjbmogfhpbaaGreatDoor.Mk
open Go.Sep
section ops
variable {pM p pr pk pp po c dn dc wn wc : Nat} {da wa : Option Addr} {chunk tv sv who draw at_ to tA tF tT push victim low seen : Int} {next then_ call : Value} {scans : Bool}
theorem reach_zero (ft : FuncId) : Does Tryz.prog 120 [ptr c 0, .int .i64 0, fnV ft] [wkB c pM who draw next at_ to tA tF tT scans push then_ call victim low seen]
    (fun v l => v = .tuple #[] ∧ l = [wkB c pM who draw (fnV ft) at_ to tA tF tT scans push then_ call victim low seen]) := by
  refine Does.of tiok Tryz.func120 (by kernel_rfl) rfl Tryz.ntmps120 rfl ?_
  intro W fr
  repeat' (first | refine Wka ?_ | intro _ | apply And.intro)
  exact At_end rfl rfl .nil rfl (is := [0]) rfl ⟨rfl, rfl⟩
theorem scan_end {x : TK} (hx : x.Ok) (h : x.f = x.t) : Does Tryz.prog 164 [ptr c 0] [wkB c pM who draw next at_ to x.a x.f x.t scans push then_ call victim low seen]
    (fun v l => v = .tuple #[] ∧ l = [wkB c pM who draw (fnV 104) at_ to x.a x.f x.t false push then_ call victim low seen]) := by
  refine Does.of tiok Tryz.func164 (by kernel_rfl) rfl Tryz.ntmps164 rfl ?_
  intro W fr
  repeat' (first | refine Wka ?_ | intro _ | apply And.intro)
  refine JO_l (OL_call [] rfl rfl rfl (taskLen hx) rfl) rfl rfl ?_; rintro _ _ ⟨_, ⟨rfl, rfl⟩, rfl⟩
  rw [show x.t - x.f = 0 by omega]
  repeat' (first | refine Wka ?_ | intro _ | apply And.intro)
  exact At_end rfl rfl .nil rfl (is := [0]) rfl ⟨rfl, rfl⟩
set_option maxHeartbeats 4000000 in
theorem reach_old {n T bw bs bm j : Nat} {ws : List Int} {st : List Bool} {os : List RO} {ms : List Nat} {o : RO} (ft : FuncId) (h : HT n T ws st) (hc : Ch ws 0 os T) (hM : MI n ms) (hj : os[j]? = some o) (ht : In64 (tv + 1)) (hold : bitB ms o.i = true ∨ o.p = 0) :
    Does Tryz.prog 120 [ptr c 0, .int .i64 ((o.i : Int) + 1), fnV ft] (wkB c pM who draw next at_ to tA tF tT scans push then_ call victim low seen :: mkB pM p pr pk pp po da dn dc wa wn wc chunk tv sv :: (marksL pk bm n ms ++ heapL p bw bs n ws T st))
    (fun v l => v = .tuple #[] ∧ l = wkB c pM who draw (fnV ft) at_ to tA tF tT scans push then_ call victim low seen :: mkB pM p pr pk pp po da dn dc wa wn wc chunk (tv + 1) sv :: (marksL pk bm n (setM ms o.i) ++ heapL p bw bs n ws T st)) := by
  obtain ⟨ht1, ht2⟩ := ht
  have hol := hc.o_lt hj
  have htn := h.tn
  have hnb := h.nb
  have hS := Set_in (pm := pk) (bm := bm) o.i hM (by omega)
  refine Does.of tiok Tryz.func120 (by kernel_rfl) rfl Tryz.ntmps120 rfl ?_
  intro W fr
  repeat' (first | refine Wka ?_ | intro _ | apply And.intro)
  rw [show (o.i : Int) + 1 - 1 = (o.i : Int) by omega]
  refine JO_l (OL_call [2, 2] rfl rfl rfl hS rfl) rfl rfl ?_
  rintro _ _ ⟨_, ⟨rfl, rfl⟩, rfl⟩
  repeat' (first | refine Wka ?_ | intro _ | apply And.intro)
  rw [show (o.i : Int) + 1 - 1 = (o.i : Int) by omega]
  refine JO_l (OL_call [4, 4, 4] rfl rfl rfl (HeadO_ok h hc hj) rfl) rfl rfl ?_
  rintro _ _ ⟨_, ⟨rfl, rfl⟩, rfl⟩
  repeat' (first | refine Wka ?_ | intro _ | apply And.intro)
  cases hb : bitB ms o.i with
  | true =>
    repeat' (first | refine Wka ?_ | intro _ | apply And.intro)
    exact At_end rfl rfl .nil rfl (is := [7, 6, 4, 4, 1, 1, 1]) rfl ⟨rfl, rfl⟩
  | false =>
    have hp : o.p = 0 := hold.resolve_left (by rw [hb]; decide)
    rw [hp]
    repeat' (first | refine Wka ?_ | intro _ | apply And.intro)
    exact At_end rfl rfl .nil rfl (is := [7, 6, 4, 4, 1, 1, 1]) rfl ⟨rfl, rfl⟩
set_option maxHeartbeats 4000000 in
theorem reach_new {R : HP} {cs : List Value} (i dq m : Nat) {n T bw bs bm j : Nat} {ws : List Int} {st : List Bool} {os : List RO} {ms : List Nat} {o : RO} (ft : FuncId) (h : HT n T ws st) (hc : Ch ws 0 os T) (hM : MI n ms) (hj : os[j]? = some o) (ht : In64 (tv + 1)) (hb : bitB ms o.i = false) (hp : o.p = (m : Int)) (hm : 0 < m) (hm2 : m ≤ 4095) (hRd : Reads R 1 dn da dc cs) (hd : cs[i]? = some (ptr dq 0)) (hi : i < dn) :
    Does Tryz.prog 120 [ptr c 0, .int .i64 ((o.i : Int) + 1), fnV ft] (wkB c pM i draw next at_ to tA tF tT scans push then_ call victim low seen :: mkB pM p pr pk pp po da dn dc wa wn wc chunk tv sv :: R :: (marksL pk bm n ms ++ heapL p bw bs n ws T st))
    (fun v l => ∃ cc, v = .tuple #[] ∧ l = wkB c pM i draw (fnV 158) at_ to tA tF tT scans (pkT ⟨o.i, 0, m⟩ : Nat) (fnV ft) (dqI cc) victim low seen :: dcL cc dq 0 (nx 174) 0 0 (pkT ⟨o.i, 0, m⟩ : Nat) 0 :: mkB pM p pr pk pp po da dn dc wa wn wc chunk (tv + 1) sv :: R :: (marksL pk bm n (setM ms o.i) ++ heapL p bw bs n ws T st)) := by
  obtain ⟨ht1, ht2⟩ := ht
  have hol := hc.o_lt hj
  have htn := h.tn
  have hnb := h.nb
  have hS := Set_in (pm := pk) (bm := bm) o.i hM (by omega)
  refine Does.of tiok Tryz.func120 (by kernel_rfl) rfl Tryz.ntmps120 rfl ?_
  intro W fr
  repeat' (first | refine Wka ?_ | intro _ | apply And.intro)
  rw [show (o.i : Int) + 1 - 1 = (o.i : Int) by omega]
  refine JO_l (OL_call [3, 3] rfl rfl rfl hS rfl) rfl rfl ?_
  rintro _ _ ⟨_, ⟨rfl, rfl⟩, rfl⟩
  repeat' (first | refine Wka ?_ | intro _ | apply And.intro)
  rw [show (o.i : Int) + 1 - 1 = (o.i : Int) by omega]
  refine JO_l (OL_call [5, 5, 5] rfl rfl rfl (HeadO_ok h hc hj) rfl) rfl rfl ?_
  rintro _ _ ⟨_, ⟨rfl, rfl⟩, rfl⟩
  repeat' (first | refine Wka ?_ | intro _ | apply And.intro)
  rw [hb, hp]
  repeat' (first | refine Wka ?_ | intro _ | apply And.intro)
  rw [show (o.i : Int) + 1 - 1 = (o.i : Int) by omega]
  refine JO_l (OL_call [7, 6, 6] rfl rfl rfl (lay_spec (x := ⟨o.i, 0, m⟩) i dq ⟨by show o.i < 65536; omega, Nat.zero_le _, hm2⟩ ft hRd hd hi) rfl) rfl rfl ?_
  rintro _ _ ⟨_, ⟨cc, rfl, rfl⟩, rfl⟩
  repeat' (first | refine Wka ?_ | intro _ | apply And.intro)
  exact At_end rfl rfl .nil rfl (is := [0, 0, 0, 0, 4, 4, 1, 1, 1]) rfl ⟨cc, rfl, rfl⟩
end ops
end Go.Proofs.YtfmkjbmogfhpbaaGreatDoor.Mk
set_option maxRecDepth 8000
namespace Go.Proofs.YtfmkjbmogfhpbaaGreatDoor.Mk
open Go.Sep
section ops
variable {pM p pr pk pp po c dn dc wn wc : Nat} {da wa : Option Addr} {chunk tv sv who draw at_ to push victim low seen : Int} {next then_ call : Value} {scans : Bool}
set_option maxHeartbeats 4000000 in
theorem scan_word {R : HP} {n T bw bs bm : Nat} {ws : List Int} {st : List Bool} {ms : List Nat} {x : TK} (hx : x.Ok) (h : x.f < x.t) {y : Int} {P : List HP → Prop}
    (hRd : Does Tryz.prog 93 [ptr p 0, .int .i64 x.a, .int .i64 x.f] (heapL p bw bs n ws T st) (fun v l => v = .tuple #[.int .i64 y, .int .i64 0] ∧ l = heapL p bw bs n ws T st))
    (hRch : Does Tryz.prog 120 [ptr c 0, .int .i64 y, fnV 164] (wkB c pM who draw next at_ to x.a (x.f + 1 : Nat) x.t scans push then_ call victim low seen :: mkB pM p pr pk pp po da dn dc wa wn wc chunk tv sv :: R :: (marksL pk bm n ms ++ heapL p bw bs n ws T st)) (fun v l => v = .tuple #[] ∧ P l)) :
    Does Tryz.prog 164 [ptr c 0] (wkB c pM who draw next at_ to x.a x.f x.t scans push then_ call victim low seen :: mkB pM p pr pk pp po da dn dc wa wn wc chunk tv sv :: R :: (marksL pk bm n ms ++ heapL p bw bs n ws T st)) (fun v l => v = .tuple #[] ∧ P l) := by
  have ht1 := hx.t1
  refine Does.of tiok Tryz.func164 (by kernel_rfl) rfl Tryz.ntmps164 rfl ?_
  intro W fr
  repeat' (first | refine Wka ?_ | intro _ | apply And.intro)
  refine JO_l (OL_call [] rfl rfl rfl (taskLen hx) rfl) rfl rfl ?_; rintro _ _ ⟨_, ⟨rfl, rfl⟩, rfl⟩
  rw [show ((x.t - x.f : Nat) : Int) = (x.t : Int) - (x.f : Int) by omega]
  repeat' (first | refine Wka ?_ | intro _ | apply And.intro)
  refine J_draw [0, 0, 0, 1, 0, 0, 1, 0, 0, 0, 0, 1, 0, 0, 0, 0, 1, 2, 0, 0, 0, 0, 0] (List.range 23) (by kernel_rfl) (by kernel_rfl) ?_
  repeat' (first | refine Wkd ?_ | intro _ | apply And.intro)
  refine JX_l rfl rfl (OL_call [5, 5, 5] rfl rfl rfl hRd rfl) rfl rfl ?_
  rintro _ _ ⟨_, ⟨rfl, rfl⟩, rfl⟩
  repeat' (first | refine Wkd ?_ | intro _ | apply And.intro)
  repeat' (first | refine Wka ?_ | intro _ | apply And.intro)
  refine JO_l (OL_call [0, 3, 3, 3, 3, 0, 0, 0] rfl rfl rfl hRch rfl) rfl rfl ?_
  rintro _ _ ⟨_, ⟨rfl, hP⟩, rfl⟩
  repeat' (first | refine Wka ?_ | intro _ | apply And.intro)
  exact At_end' rfl rfl .nil rfl (fun H hl => hl.left) ⟨rfl, hP⟩
end ops
end Go.Proofs.YtfmkjbmogfhpbaaGreatDoor.Mk
set_option maxRecDepth 8000
namespace Go.Proofs.YtfmkjbmogfhpbaaGreatDoor.Mk
open Go.Sep
section ops
variable {pM p pr pk pp po c dn dc wn wc : Nat} {da wa : Option Addr} {chunk tv sv who draw tA tF tT push victim low seen : Int} {next then_ call : Value} {scans : Bool}
set_option maxHeartbeats 4000000 in
theorem root_word {D : List HP} {rc rw : Nat} {n : Int} {ar : Option Addr} {cr : Nat} {rs : List Int} {part : Int} (a t : Nat) (hat : a < t) (ht : t ≤ 65536) {y : Int} (ha : a < rs.length) (hy : rs[a]? = some y) {P : List HP → Prop} (ft : FuncId) (hft : ft = if a + 1 = t then 72 else 103)
    (hRch : Does Tryz.prog 120 [ptr c 0, .int .i64 y, fnV ft] (wkB c pM who draw next (a + 1 : Nat) t tA tF tT scans push then_ call victim low seen :: mkB pM p pr pk pp po da dn dc wa wn wc chunk tv sv :: D) (fun v l => v = .tuple #[] ∧ P l)) :
    Does Tryz.prog 103 [ptr c 0] (Rt.rootsZ pr rc rw n ar cr rs part ++ (wkB c pM who draw next a t tA tF tT scans push then_ call victim low seen :: mkB pM p pr pk pp po da dn dc wa wn wc chunk tv sv :: D)) (fun v l => v = .tuple #[] ∧ ∃ l1, P l1 ∧ l = l1 ++ Rt.rootsZ pr rc rw n ar cr rs part) := by
  refine Does.of tiok Tryz.func103 (by kernel_rfl) rfl Tryz.ntmps103 rfl ?_
  intro W fr
  repeat' (first | refine Wka ?_ | intro _ | apply And.intro)
  refine J_draw [0, 0, 0, 1, 0, 0, 1, 0, 0, 0, 1, 2, 0, 0, 0, 0, 0] (List.range 17) (by kernel_rfl) (by kernel_rfl) ?_
  repeat' (first | refine Wkd ?_ | intro _ | apply And.intro)
  refine JX_l rfl rfl (OL_call [0, 0, 0] rfl rfl rfl (Rt.Get_ok a y ha hy) rfl) rfl rfl ?_
  rintro _ _ ⟨_, ⟨rfl, rfl⟩, rfl⟩
  repeat' (first | refine Wkd ?_ | intro _ | apply And.intro)
  repeat' (first | refine Wka ?_ | intro _ | apply And.intro)
  refine J_draw [0, 0, 0, 1, 0, 0, 0, 1, 0] (List.range 9) (by kernel_rfl) (by kernel_rfl) ?_
  repeat' (first | refine Wkd ?_ | intro _ | apply And.intro)
  have hpm : ∀ H, Stars (wkB c pM who draw next (a + 1 : Nat) t tA tF tT scans push then_ call victim low seen :: Rt.rootsZ pr rc rw n ar cr rs part ++ (mkB pM p pr pk pp po da dn dc wa wn wc chunk tv sv :: D)) H → Stars ((wkB c pM who draw next (a + 1 : Nat) t tA tF tT scans push then_ call victim low seen :: mkB pM p pr pk pp po da dn dc wa wn wc chunk tv sv :: D) ++ Rt.rootsZ pr rc rw n ar cr rs part) H := fun H hl => hl.perm (.cons _ (List.perm_append_comm (l₁ := [_, _, _])))
  by_cases e : a + 1 = t
  · rw [if_pos e] at hft
    subst hft
    repeat' (first | refine Wka ?_ | intro _ | apply And.intro)
    refine JO_hp hpm ?_
    refine JO_l (OL_callP (r := Rt.rootsZ pr rc rw n ar cr rs part) rfl rfl rfl hRch (.refl _)) rfl rfl ?_
    rintro _ _ ⟨l1, ⟨rfl, hP⟩, rfl⟩
    repeat' (first | refine Wka ?_ | intro _ | apply And.intro)
    exact At_end' rfl rfl .nil rfl (fun H hl => hl) ⟨rfl, l1, hP, rfl⟩
  · rw [if_neg e] at hft
    subst hft
    repeat' (first | refine Wka ?_ | intro _ | apply And.intro)
    refine JO_hp hpm ?_
    refine JO_l (OL_callP (r := Rt.rootsZ pr rc rw n ar cr rs part) rfl rfl rfl hRch (.refl _)) rfl rfl ?_
    rintro _ _ ⟨l1, ⟨rfl, hP⟩, rfl⟩
    repeat' (first | refine Wka ?_ | intro _ | apply And.intro)
    exact At_end' rfl rfl .nil rfl (fun H hl => hl) ⟨rfl, l1, hP, rfl⟩
end ops
end Go.Proofs.YtfmkjbmogfhpbaaGreatDoor.Mk
set_option maxRecDepth 8000
namespace Go.Proofs.YtfmkjbmogfhpbaaGreatDoor.Mk
open Go.Sep
section ops
variable {pM p pr pk pp po c dn dc wn wc : Nat} {da wa : Option Addr} {tv sv draw at_ to tA tF tT push victim low seen : Int} {next then_ call : Value} {scans : Bool}
abbrev begP (c pM : Nat) (i : Nat) (draw at_ to push : Int) (then_ : Value) (victim low seen : Int) (M R : HP) (dq K : Nat) (x : TK) (D : List HP) (l : List HP) : Prop :=
  (¬ x.f + K < x.t ∧ l = wkB c pM i draw (fnV 164) at_ to x.a x.f x.t true push then_ .nilIface victim low seen :: M :: R :: D) ∨
  (x.f + K < x.t ∧ ∃ cc, l = wkB c pM i draw (fnV 158) at_ to x.a x.f (x.f + K : Nat) true (pkT ⟨x.a, x.f + K, x.t⟩ : Nat) (fnV 164) (dqI cc) victim low seen :: dcL cc dq 0 (nx 174) 0 0 (pkT ⟨x.a, x.f + K, x.t⟩ : Nat) 0 :: M :: R :: D)
theorem begin_any {R : HP} {cs : List Value} (i dq : Nat) (K : Nat) (hK : 1 ≤ K) (hK2 : K ≤ 65536) {x : TK} (hx : x.Ok) (hRd : Reads R 1 dn da dc cs) (hd : cs[i]? = some (ptr dq 0)) (hi : i < dn) (D : List HP) :
    Does Tryz.prog 143 [ptr c 0, .int .i64 (pkT x : Nat)] (wkB c pM i draw next at_ to tA tF tT scans push then_ .nilIface victim low seen :: mkB pM p pr pk pp po da dn dc wa wn wc K tv sv :: R :: D)
    (fun v l => v = .tuple #[] ∧ begP c pM i draw at_ to push then_ victim low seen (mkB pM p pr pk pp po da dn dc wa wn wc K tv sv) R dq K x D l) := by
  by_cases hn : x.f + K < x.t
  · refine ((begin_more (c := c) (pM := pM) (p := p) (pr := pr) (pk := pk) (pp := pp) (po := po) (wa := wa) (wn := wn) (wc := wc) (tv := tv) (sv := sv) (draw := draw) (at_ := at_) (to := to) (tA := tA) (tF := tF) (tT := tT) (push := push) (victim := victim) (low := low) (seen := seen) (next := next) (then_ := then_) (call := .nilIface) (scans := scans) i dq K hK hK2 hx hn hRd hd hi).wide (L := wkB c pM i draw next at_ to tA tF tT scans push then_ .nilIface victim low seen :: mkB pM p pr pk pp po da dn dc wa wn wc K tv sv :: R :: D) [0, 0, 0] rfl).mono ?_
    rintro v l ⟨_, ⟨cc, rfl, rfl⟩, rfl⟩
    exact ⟨rfl, .inr ⟨hn, cc, rfl⟩⟩
  · refine ((begin_one (c := c) (pM := pM) (p := p) (pr := pr) (pk := pk) (pp := pp) (po := po) (da := da) (dn := dn) (dc := dc) (wa := wa) (wn := wn) (wc := wc) (tv := tv) (sv := sv) (who := i) (draw := draw) (at_ := at_) (to := to) (tA := tA) (tF := tF) (tT := tT) (push := push) (victim := victim) (low := low) (seen := seen) (next := next) (then_ := then_) (call := .nilIface) (scans := scans) K hK hK2 hx hn).wide (L := wkB c pM i draw next at_ to tA tF tT scans push then_ .nilIface victim low seen :: mkB pM p pr pk pp po da dn dc wa wn wc K tv sv :: R :: D) [0, 0] rfl).mono ?_
    rintro v l ⟨_, ⟨rfl, rfl⟩, rfl⟩
    exact ⟨rfl, .inl ⟨hn, rfl⟩⟩
abbrev tryP (I : Nat → Value) (c pM : Nat) (i : Nat) (draw : Int) (next : Value) (at_ to tA tF tT : Int) (scans : Bool) (push : Int) (then_ : Value) (victim low seen : Int) (M R : HP) (dq K : Nat) (none : FuncId) (Pm : Nat → List HP → Prop) (Pn : List HP → Prop) (Pt : TK → List HP → Prop) (v : Value) (l : List HP) : Prop :=
  v = .tuple #[] ∧ ∃ D', (∃ cc, Pm cc D' ∧ l = wkB c pM i draw next at_ to tA tF tT scans push then_ (I cc) victim low seen :: M :: R :: D') ∨
    (Pn D' ∧ l = wkB c pM i draw (fnV none) at_ to tA tF tT scans push then_ .nilIface victim low seen :: M :: R :: D') ∨
    (∃ x, Pt x D' ∧ begP c pM i draw at_ to push then_ victim low seen M R dq K x D' l)
structure Calls (fS fR : FuncId) (cc : Nat) (D : List HP) (Pm Pn : List HP → Prop) (Pt : TK → List HP → Prop) : Prop where
  st : ∃ Pd : List HP → Prop, Does Tryz.prog fS [ptr cc 0] D (fun v l => (v = .bool false ∧ Pm l) ∨ (v = .bool true ∧ Pd l)) ∧
    ∀ l, Pd l → ∃ w e, Does Tryz.prog fR [ptr cc 0] l (fun v l' => v = .tuple #[.int .i64 w, .int .i64 e] ∧ l' = l) ∧ ((e ≠ 0 ∧ Pn l) ∨ (e = 0 ∧ ∃ x : TK, x.Ok ∧ w = ((pkT x : Nat) : Int) ∧ Pt x l))
set_option maxHeartbeats 4000000 in
theorem try_spec {R : HP} {cs : List Value} (i dq : Nat) (K : Nat) (hK : 1 ≤ K) (hK2 : K ≤ 65536) (hRd : Reads R 1 dn da dc cs) (hd : cs[i]? = some (ptr dq 0)) (hi : i < dn) (ht : In64 (tv + 1)) (none : FuncId) {cc : Nat} {D : List HP} {Pm : Nat → List HP → Prop} {Pn : List HP → Prop} {Pt : TK → List HP → Prop}
    (hC : Calls 229 228 cc D (Pm cc) Pn Pt) :
    Does Tryz.prog 122 [ptr c 0, fnV none] (wkB c pM i draw next at_ to tA tF tT scans push then_ (dqI cc) victim low seen :: mkB pM p pr pk pp po da dn dc wa wn wc K tv sv :: R :: D)
    (tryP dqI c pM i draw next at_ to tA tF tT scans push then_ victim low seen (mkB pM p pr pk pp po da dn dc wa wn wc K (tv + 1) sv) R dq K none Pm Pn Pt) := by
  obtain ⟨ht1, ht2⟩ := ht
  obtain ⟨Pd, hS, hR⟩ := hC.st
  refine Does.of tiok Tryz.func122 (by kernel_rfl) rfl Tryz.ntmps122 rfl ?_
  intro W fr
  repeat' (first | refine Wka ?_ | intro _ | apply And.intro)
  refine JO_l (OL_invokeP (r := [mkB pM p pr pk pp po da dn dc wa wn wc K (tv + 1) sv, wkB c pM i draw next at_ to tA tF tT scans push then_ (dqI cc) victim low seen, R]) rfl rfl (by kernel_rfl) Tryz.underlying231 hS (List.perm_append_comm (l₁ := [_, _, _]))) rfl rfl ?_
  rintro _ _ ⟨D', ⟨rfl, hP⟩ | ⟨rfl, hP⟩, rfl⟩
  · refine JO_hp (l' := wkB c pM i draw next at_ to tA tF tT scans push then_ (dqI cc) victim low seen :: mkB pM p pr pk pp po da dn dc wa wn wc K (tv + 1) sv :: R :: D') (fun H hl => hl.perm ((List.perm_append_comm (l₂ := [_, _, _])).trans (List.Perm.swap _ _ _))) ?_
    repeat' (first | refine Wka ?_ | intro _ | apply And.intro)
    exact At_end' rfl rfl .nil rfl (fun H hl => hl) ⟨rfl, D', .inl ⟨cc, hP, rfl⟩⟩
  · refine JO_hp (l' := wkB c pM i draw next at_ to tA tF tT scans push then_ (dqI cc) victim low seen :: mkB pM p pr pk pp po da dn dc wa wn wc K (tv + 1) sv :: R :: D') (fun H hl => hl.perm ((List.perm_append_comm (l₂ := [_, _, _])).trans (List.Perm.swap _ _ _))) ?_
    obtain ⟨w, e, hRR, hE⟩ := hR D' hP
    repeat' (first | refine Wka ?_ | intro _ | apply And.intro)
    refine JO_l (OL_invokeP (r := [wkB c pM i draw next at_ to tA tF tT scans push then_ (dqI cc) victim low seen, mkB pM p pr pk pp po da dn dc wa wn wc K (tv + 1) sv, R]) rfl rfl (by kernel_rfl) Tryz.underlying231 hRR (List.perm_append_comm (l₁ := [_, _, _]))) rfl rfl ?_
    rintro _ _ ⟨D', ⟨rfl, rfl⟩, rfl⟩
    refine JO_hp (l' := wkB c pM i draw next at_ to tA tF tT scans push then_ (dqI cc) victim low seen :: mkB pM p pr pk pp po da dn dc wa wn wc K (tv + 1) sv :: R :: D') (fun H hl => hl.perm (List.perm_append_comm (l₂ := [_, _, _]))) ?_
    rcases hE with ⟨he, hn⟩ | ⟨rfl, x, hx, rfl, hx2⟩
    · repeat' (first | refine Wka ?_ | intro _ | apply And.intro)
      exact At_end' rfl rfl .nil rfl (fun H hl => hl) ⟨rfl, D', .inr (.inl ⟨hn, rfl⟩)⟩
    · repeat' (first | refine Wka ?_ | intro _ | apply And.intro)
      refine JO_l (OL_callP (r := []) rfl rfl rfl (begin_any (x := x) i dq K hK hK2 hx hRd hd hi D') (by rw [List.append_nil])) rfl rfl ?_
      rintro _ _ ⟨l1, ⟨rfl, hB⟩, rfl⟩
      repeat' (first | refine Wka ?_ | intro _ | apply And.intro)
      exact At_end' rfl rfl .nil rfl (fun H hl => by rw [List.append_nil] at hl; exact hl) ⟨rfl, D', .inr (.inr ⟨x, hx2, hB⟩)⟩
set_option maxHeartbeats 4000000 in
theorem pop_more {R : HP} {cs : List Value} (i dq : Nat) (K : Nat) (hK : 1 ≤ K) (hK2 : K ≤ 65536) (hRd : Reads R 1 dn da dc cs) (hd : cs[i]? = some (ptr dq 0)) (hi : i < dn) (ht : In64 (tv + 1)) {cc : Nat} {D : List HP} {Pm : Nat → List HP → Prop} {Pn : List HP → Prop} {Pt : TK → List HP → Prop}
    (hC : Calls 229 228 cc D (Pm cc) Pn Pt) :
    Does Tryz.prog 104 [ptr c 0] (wkB c pM i draw next at_ to tA tF tT scans push then_ (dqI cc) victim low seen :: mkB pM p pr pk pp po da dn dc wa wn wc K tv sv :: R :: D)
    (tryP dqI c pM i draw next at_ to tA tF tT scans push then_ victim low seen (mkB pM p pr pk pp po da dn dc wa wn wc K (tv + 1) sv) R dq K 123 Pm Pn Pt) := by
  refine Does.of tiok Tryz.func104 (by kernel_rfl) rfl Tryz.ntmps104 rfl ?_
  intro W fr
  repeat' (first | refine Wka ?_ | intro _ | apply And.intro)
  refine JO_val (OV_ifaceEq rfl Tryz.underlying161) rfl rfl ?_
  repeat' (first | refine Wka ?_ | intro _ | apply And.intro)
  refine JO_l (OL_callP (r := []) rfl rfl rfl (try_spec (c := c) (draw := draw) (next := next) (at_ := at_) (to := to) (tA := tA) (tF := tF) (tT := tT) (scans := scans) (push := push) (then_ := then_) (victim := victim) (low := low) (seen := seen) i dq K hK hK2 hRd hd hi ht 123 hC) (by rw [List.append_nil])) rfl rfl ?_
  rintro _ _ ⟨l1, ⟨rfl, hB⟩, rfl⟩
  repeat' (first | refine Wka ?_ | intro _ | apply And.intro)
  exact At_end' rfl rfl .nil rfl (fun H hl => by rw [List.append_nil] at hl; exact hl) ⟨rfl, hB⟩
set_option maxHeartbeats 4000000 in
theorem pop_new {R : HP} {cs : List Value} (i dq : Nat) (K : Nat) (hK : 1 ≤ K) (hK2 : K ≤ 65536) (hRd : Reads R 1 dn da dc cs) (hd : cs[i]? = some (ptr dq 0)) (hi : i < dn) (ht : In64 (tv + 1)) {D : List HP} {Pm : Nat → List HP → Prop} {Pn : List HP → Prop} {Pt : TK → List HP → Prop}
    (hC : ∀ cc, Calls 229 228 cc (dcL cc dq 0 (nx 142) 0 0 0 0 :: D) (Pm cc) Pn Pt) :
    Does Tryz.prog 104 [ptr c 0] (wkB c pM i draw next at_ to tA tF tT scans push then_ .nilIface victim low seen :: mkB pM p pr pk pp po da dn dc wa wn wc K tv sv :: R :: D)
    (tryP dqI c pM i draw next at_ to tA tF tT scans push then_ victim low seen (mkB pM p pr pk pp po da dn dc wa wn wc K (tv + 1) sv) R dq K 123 Pm Pn Pt) := by
  refine Does.of tiok Tryz.func104 (by kernel_rfl) rfl Tryz.ntmps104 rfl ?_
  intro W fr
  refine J_fact _ (fun w hs => hRd.some (by omega) hs Mmt) ?_
  rintro ⟨bo, oo, rfl⟩
  repeat' (first | refine Wka ?_ | intro _ | apply And.intro)
  refine JO_val (OV_nilEq rfl Tryz.underlying161) rfl rfl ?_
  repeat' (first | refine Wka ?_ | intro _ | apply And.intro)
  refine J_draw [0, 0, 0, 0, 1, 0, 0, 1, 0, 0, 0, 1, 0, 1, 2, 0, 0, 0, 2] (List.range 19) (by kernel_rfl) (by kernel_rfl) ?_
  repeat' (first | refine Wkd ?_ | intro _ | apply And.intro)
  refine JX_val rfl rfl (OV_idx (off := oo + i) rfl rfl rfl rfl (by omega) (by omega) (by omega)) rfl rfl ?_
  refine JX_q rfl rfl (OQ_read (i := i) (v := ptr dq 0) hRd Mmt rfl rfl (by omega) hd) rfl rfl ?_
  repeat' (first | refine Wkd ?_ | intro _ | apply And.intro)
  refine JX_l rfl rfl (OL_call [] rfl rfl rfl Pop_spec rfl) rfl rfl ?_
  rintro _ _ ⟨_, ⟨cc, rfl, rfl⟩, rfl⟩
  refine JX_val rfl rfl (OV_iface rfl Tryz.underlying231) rfl rfl ?_
  repeat' (first | refine Wkd ?_ | intro _ | apply And.intro)
  repeat' (first | refine Wka ?_ | intro _ | apply And.intro)
  refine JO_hp (l' := wkB c pM i draw next at_ to tA tF tT scans push then_ (dqI cc) victim low seen :: mkB pM p pr pk pp po (some ⟨bo, oo, none⟩) dn dc wa wn wc K tv sv :: R :: dcL cc dq 0 (nx 142) 0 0 0 0 :: D) (fun H hl => hl.perm (picks_perm (is := [0, 1, 1]) rfl)) ?_
  refine JO_l (OL_callP (r := []) rfl rfl rfl (try_spec (c := c) (draw := draw) (next := next) (at_ := at_) (to := to) (tA := tA) (tF := tF) (tT := tT) (scans := scans) (push := push) (then_ := then_) (victim := victim) (low := low) (seen := seen) i dq K hK hK2 hRd hd hi ht 123 (hC cc)) (by rw [List.append_nil])) rfl rfl ?_
  rintro _ _ ⟨l1, ⟨rfl, hB⟩, rfl⟩
  repeat' (first | refine Wka ?_ | intro _ | apply And.intro)
  exact At_end' rfl rfl .nil rfl (fun H hl => by rw [List.append_nil] at hl; exact hl) ⟨rfl, hB⟩
end ops
end Go.Proofs.YtfmkjbmogfhpbaaGreatDoor.Mk
namespace Go.Proofs.YtfmkjbmogfhpbaaGreatDoor
open Go.Sep
section ops
variable {ps pf p bw bs pm bm bst bf n T w nR pw bw2 pz bz : Nat} {ws : List Int} {st : List Bool} {ms : List Nat} {rs : List RG} {fs : List Int} {wds sts : List Int} {wa : Option Addr} {wc : Nat} {xs : List WX} {pv mv tv : Int}
def OverP (sts : List Int) (nR : Nat) (pv : Int) : Prop := (∀ (k : Nat) (y : Int), k < nR → sts[3 + k]? = some y → y ≠ 0) ∧ sts[2]? = some pv
set_option maxHeartbeats 8000000 in
theorem Over_spec (hs : sts.length = 3 + nR) (hn : nR ≤ 60000) : Does Tryz.prog 75 [ptr ps 0] (sldZ ps pf p bw bs pm bm bst bf n T w nR pw bw2 pz bz ws st ms rs fs wds sts wa wc xs pv mv tv)
    (fun v l => ∃ t : Bool, (t = true ↔ OverP sts nR pv) ∧ v = .bool t ∧ l = sldZ ps pf p bw bs pm bm bst bf n T w nR pw bw2 pz bz ws st ms rs fs wds sts wa wc xs pv mv tv) := by
  refine Does.of tiok Tryz.func75 (by kernel_rfl) rfl Tryz.ntmps75 rfl ?_
  intro W fr
  repeat' (first | refine Wka ?_ | intro _ | apply And.intro)
  refine JO_l (OL_call [3] rfl rfl rfl (CellsWords_z (p := pz) (bw := bz) (ws := sts) (by omega)) rfl) rfl rfl ?_
  rintro _ _ ⟨_, ⟨a0, cap0, hn0, rfl, rfl⟩, rfl⟩
  repeat' (first | refine Wka ?_ | intro _ | apply And.intro)
  refine JO_l (OL_call [] rfl rfl rfl (RegLen_spec (w := w) (bst := bst) (bf := bf) (nR := nR)) rfl) rfl rfl ?_
  rintro _ _ ⟨_, ⟨rfl, rfl⟩, rfl⟩
  repeat' (first | refine Wka ?_ | intro _ | apply And.intro)
  refine J_rowzf P0 fun hr => ?_
  have hRw := Reads.rowz (T := 3) hr.1 hr.2.1
  refine J_fact _ (fun w hs2 => hRw.some (by omega) hs2 Mmt) ?_
  rintro ⟨b2, o2, rfl⟩
  refine J_loop (α := Nat) (fun q => q ≤ nR ∧ ∀ (k : Nat) (y : Int), k < q → sts[3 + k]? = some y → y ≠ 0)
    (fun q => [(0, ptr ps 0), (3, .slice (some ⟨b2, o2, none⟩) sts.length cap0), (17, .int .i64 nR), (18, .int .i64 q)])
    (fun q => rowz 3 1 (some ⟨b2, o2, none⟩) sts.length cap0 (intsV sts) :: cellsZ pz bz sts :: (blk ps [ptr pf 0, ptr p 0, ptr pw 0, ptr pz 0, .slice wa xs.length wc, .int .i64 pv, .int .i64 mv, .int .i64 tv] 167 :: row 168 1 wa xs.length wc (wkP xs) :: bigM (wkH ps) xs ::
      cellsZ pw bw2 wds :: (heapL p bw bs n ws T st ++ (blk pf (fwdV p pm w bst bf nR) 219 :: (marksL pm bm n ms ++ regL bst bf rs fs))))) (fun q => nR - q) 0 ⟨Nat.zero_le _, fun k y hk => absurd hk (Nat.not_lt_zero _)⟩ Sgt (fun H hl => hl) ?_
  rintro q ⟨hq, hI⟩
  repeat' (first | refine Wkb ?_ | intro _ | apply And.intro)
  · rename_i hlt
    refine J_block ?_
    obtain ⟨y, hy⟩ : ∃ y, sts[3 + q]? = some y := ⟨sts[3 + q]'(by omega), List.getElem?_eq_getElem _⟩
    repeat' (first | refine Wka ?_ | intro _ | apply And.intro)
    rw [show (3 : Int) + (q : Int) = ((3 + q : Nat) : Int) by omega]
    refine JO_val (OV_idx (off := o2 + (3 + q)) rfl rfl rfl rfl (by omega) (by omega) (by simp; omega)) rfl rfl ?_
    refine JO_q (OQ_read (i := 3 + q) (v := .int .i64 y) hRw (.head _) rfl rfl (by omega) (by simp [intsV, hy])) rfl rfl ?_
    repeat' (first | refine Wka ?_ | intro _ | apply And.intro)
    · rename_i h0
      exact At_ret rfl rfl (.tmp rfl .nil) rfl (is := [2, 2, 2, 1, 1, 1, 1, 1, 1, 1, 1, 1, 1, 1]) rfl ⟨false, ⟨fun e => absurd e (by decide), fun e => absurd h0 (e.1 q y (by omega) hy)⟩, rfl, rfl⟩
    · rename_i h0
      refine At_round (q + 1) (by show nR - (q + 1) < nR - q; omega) ⟨by omega, fun k y' hk hy' => ?_⟩ Sgt (fun H hl => hl)
      by_cases e : k = q
      · subst e
        rw [hy] at hy'; injection hy' with hy'; subst hy'; exact h0
      · exact hI k y' (by omega) hy'
  · have hqe : q = nR := by omega
    subst hqe
    obtain ⟨y, hy⟩ : ∃ y, sts[2]? = some y := ⟨sts[2]'(by omega), List.getElem?_eq_getElem _⟩
    repeat' (first | refine Wka ?_ | intro _ | apply And.intro)
    refine J_draw [0, 0, 1, 0, 0, 0, 1, 0, 0] (List.range 9) (by kernel_rfl) (by kernel_rfl) ?_
    repeat' (first | refine Wkd ?_ | intro _ | apply And.intro)
    refine JX_val rfl rfl (OV_idx (off := o2 + 2) rfl rfl rfl rfl (by omega) (by omega) (by simp)) rfl rfl ?_
    refine JX_q rfl rfl (OQ_read (i := 2) (v := .int .i64 y) hRw (.head _) rfl rfl (by omega) (by simp [intsV, hy])) rfl rfl ?_
    repeat' (first | refine Wkd ?_ | intro _ | apply And.intro)
    repeat' (first | refine Wka ?_ | intro _ | apply And.intro)
    refine At_ret rfl rfl (.tmp rfl .nil) rfl (is := [2, 2, 2, 1, 1, 1, 1, 1, 1, 1, 1, 1, 1, 1]) rfl ⟨decide (y = pv), ?_, rfl, rfl⟩
    rw [decide_eq_true_iff]
    exact ⟨fun e => ⟨hI, by rw [hy, e]⟩, fun e => by have := e.2; rw [hy] at this; injection this⟩
theorem SlStep_end {who : Int} (hw : 0 ≤ who ∧ who < xs.length) (hs : sts.length = 3 + nR) (hn : nR ≤ 60000) (ho : OverP sts nR pv) : Does Tryz.prog 37 [ptr ps 0, .int .i64 who] (sldZ ps pf p bw bs pm bm bst bf n T w nR pw bw2 pz bz ws st ms rs fs wds sts wa wc xs pv mv tv)
    (fun v l => v = .int .i64 12 ∧ l = sldZ ps pf p bw bs pm bm bst bf n T w nR pw bw2 pz bz ws st ms rs fs wds sts wa wc xs pv mv tv) := by
  refine Does.of tiok Tryz.func37 (by kernel_rfl) rfl Tryz.ntmps37 rfl ?_
  intro W fr
  obtain ⟨h1, h2⟩ := hw
  repeat' (first | refine Wka ?_ | intro _ | apply And.intro)
  refine JO_l (OL_call [0, 0, 0, 0, 0, 0, 0, 0, 0, 0, 0, 0, 0, 0] rfl rfl rfl (Over_spec hs hn) rfl) rfl rfl ?_
  rintro _ _ ⟨_, ⟨t, ht, rfl, rfl⟩, rfl⟩
  obtain rfl : t = true := ht.2 ho
  repeat' (first | refine Wka ?_ | intro _ | apply And.intro)
  exact At_ret rfl rfl (.tmp rfl .nil) rfl (is := [0, 0, 0, 0, 0, 0, 0, 0, 0, 0, 0, 0, 0, 0]) rfl ⟨rfl, rfl⟩
end ops
open Go.Sep
abbrev sdB (ps pf p pw pz : Nat) (wa : Option Addr) (nW wc : Nat) (pv mv tv : Int) : HP := blk ps [ptr pf 0, ptr p 0, ptr pw 0, ptr pz 0, .slice wa nW wc, .int .i64 pv, .int .i64 mv, .int .i64 tv] 167
abbrev wkB (ps : Nat) (x : WX) : HP := blk x.c (wkC ps x) 171
abbrev wkR (ps c : Nat) (who : Int) (fn : FuncId) (region : Int) (wv ov : Value) (from_ to size refs at_ word end_ : Int) : HP := blk c [ptr ps 0, .int .i64 who, .func (.func fn) #[] #[], .int .i64 region, wv, ov, .int .i64 from_, .int .i64 to, .int .i64 size, .int .i64 refs, .int .i64 at_, .int .i64 word, .int .i64 end_] 171
section ops
variable {ps pf p pw pz bz nW wc : Nat} {wa : Option Addr} {pv mv tv : Int} {sts : List Int} {c : Nat} {who : Int} {fn : FuncId} {region : Int} {wv ov : Value} {from_ to size refs at_ word end_ : Int}
set_option maxHeartbeats 4000000 in
theorem wLoad {was : Int} (place : Nat) (h1 : 0 ≤ who) (h2 : who < 64) (hwas : sts[place]? = some was) (hs : sts.length ≤ 65536) (ht : In64 (tv + 1)) :
    Does Tryz.prog 169 [ptr c 0, .int .i64 place] [wkR ps c who fn region wv ov from_ to size refs at_ word end_, sdB ps pf p pw pz wa nW wc pv mv tv, cellsZ pz bz sts]
    (fun v l => v = .int .i64 was ∧ l = [wkR ps c who fn region wv ov from_ to size refs at_ word end_, sdB ps pf p pw pz wa nW wc pv mv (tv + 1), cellsZ pz bz sts]) := by
  obtain ⟨t1, t2⟩ := ht
  refine Does.of tiok Tryz.func169 (by kernel_rfl) rfl Tryz.ntmps169 rfl ?_
  intro W fr
  repeat' (first | refine Wka ?_ | intro _ | apply And.intro)
  refine J_draw [0, 0, 0, 1, 0, 0, 1, 0, 0, 0, 1, 0, 2, 0, 0, 0, 0, 0] (List.range 18) (by kernel_rfl) (by kernel_rfl) ?_
  repeat' (first | refine Wkd ?_ | intro _ | apply And.intro)
  refine JX_l rfl rfl (OL_call [2] rfl rfl rfl (Load_z (p := pz) (bw := bz) who was place h1 h2 hwas hs) rfl) rfl rfl ?_
  rintro _ _ ⟨_, ⟨rfl, rfl⟩, rfl⟩
  repeat' (first | refine Wkd ?_ | intro _ | apply And.intro)
  repeat' (first | refine Wka ?_ | intro _ | apply And.intro)
  exact At_ret rfl rfl (.tmp rfl .nil) rfl (is := [2, 0, 0]) rfl ⟨rfl, rfl⟩
set_option maxHeartbeats 4000000 in
theorem wAdd {was : Int} (place : Nat) (h1 : 0 ≤ who) (h2 : who < 64) (hwas : sts[place]? = some was) (hs : sts.length ≤ 65536) (hb : In64 (was + 1)) (ht : In64 (tv + 1)) :
    Does Tryz.prog 149 [ptr c 0, .int .i64 place] [wkR ps c who fn region wv ov from_ to size refs at_ word end_, sdB ps pf p pw pz wa nW wc pv mv tv, cellsZ pz bz sts]
    (fun v l => v = .int .i64 was ∧ l = [wkR ps c who fn region wv ov from_ to size refs at_ word end_, sdB ps pf p pw pz wa nW wc pv mv (tv + 1), cellsZ pz bz (sts.set place (was + 1))]) := by
  obtain ⟨t1, t2⟩ := ht
  refine Does.of tiok Tryz.func149 (by kernel_rfl) rfl Tryz.ntmps149 rfl ?_
  intro W fr
  repeat' (first | refine Wka ?_ | intro _ | apply And.intro)
  refine J_draw [0, 0, 0, 1, 0, 0, 1, 0, 0, 0, 1, 0, 2, 0, 0, 0, 0, 0] (List.range 18) (by kernel_rfl) (by kernel_rfl) ?_
  repeat' (first | refine Wkd ?_ | intro _ | apply And.intro)
  refine JX_l rfl rfl (OL_call [2] rfl rfl rfl (Add_z (p := pz) (bw := bz) who was place h1 h2 hwas hs hb) rfl) rfl rfl ?_
  rintro _ _ ⟨_, ⟨rfl, rfl⟩, rfl⟩
  repeat' (first | refine Wkd ?_ | intro _ | apply And.intro)
  repeat' (first | refine Wka ?_ | intro _ | apply And.intro)
  exact At_ret rfl rfl (.tmp rfl .nil) rfl (is := [2, 0, 0]) rfl ⟨rfl, rfl⟩
end ops
end Go.Proofs.YtfmkjbmogfhpbaaGreatDoor
