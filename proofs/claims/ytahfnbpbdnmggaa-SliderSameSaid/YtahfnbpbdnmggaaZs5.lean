/-
  Our own: what the claims of Zs share, 5 of 5: Sia Sig Sih Sib Sic Srf Sif LaSj LaSm.
-/
import Derived.Test.YtahfnbpbdnmggaaZs4
import Derived.RangeFuncStops
import Derived.RangeFuncLeaves
import Derived.LoopNIn
import Derived.Laws.StructEq
import Derived.Tactics
import Derived.Laws.Slices
import Derived.Deep.Quiet
import Derived.IntWalk
import Derived.Shelf.Abstract
import Derived.Laws.Entries
import Derived.Laws.Rows
import Derived.Below
import Derived.TacticsIn
import Derived.OrdersIn
import Derived.KernelRfl
import Derived.Test.YtahfnbpbdnmggaaProg
import Derived.ChangeArms
import Derived.WalkKit
import Derived.ProofKit
import Derived.OpenShut
import Derived.ChangeOld
import Derived.SizedLaws
import Derived.Carry
import Derived.Lib.SmallJoins
import Derived.Laws.Shifts
import Derived.Laws.Bits64b
/-
  Our own: what comes of a sliding is a heap; slider.Heap.
-/
set_option linter.unusedVariables false
set_option linter.unusedSimpArgs false
namespace Go.Proofs.Ytahfnbpbdnmggaa
open Go.Sep
theorem ofF_ch {ws : List Int} {T : Nat} : ∀ {os : List RO} {i f : Nat} {st : List Bool}, Ch ws i os T → T < i + f → ∃ st', ofF ws T f i st = some st'
  | [], i, f, st, h, hf => by
    obtain ⟨g, rfl⟩ : ∃ g, f = g + 1 := ⟨f - 1, by have : i = T := h; omega⟩
    have : ¬ i < T := by have : i = T := h; omega
    exact ⟨st, by simp only [ofF, this, if_false]⟩
  | o :: r, i, f, st, h, hf => by
    obtain ⟨h1, h2, h3, h4, h5⟩ := h
    have hle := h5.le
    obtain ⟨g, rfl⟩ : ∃ g, f = g + 1 := ⟨f - 1, by omega⟩
    obtain ⟨u0, u1, u2, u3, u4⟩ := packI_un h2
    obtain ⟨st', hst⟩ := ofF_ch (f := g) (st := st.set i true) h5 (by omega)
    refine ⟨st', ?_⟩
    have hlt : i < T := by omega
    simp only [ofF, hlt, if_true, h3, u1, u3, Int.toNat_natCast, true_and, hle]
    exact hst
section nw
variable {n T : Nat} {ws : List Int} {st : List Bool} {os : List RO} {ms : List Nat}
/-- One slid object more. -/
theorem slide_step (hc : Ch ws 0 os T) {os' : List RO} {q : Nat} {o : RO} (h : Ch (NWI T ws ms os) 0 os' (goI ms os q)) (ho : os[q]? = some o) (hl : lvB ms o = true) (wa : Option Addr) (wc : Nat) :
    Ch (NWI T ws ms os) 0 (os' ++ [⟨goI ms os q, o.k, o.p, fwL ms os o, wa, wc⟩]) (goI ms os (q + 1)) := by
  have hat := (hc.at ho).2
  have h1 := goI_succ (ms := ms) ho
  rw [hl, if_pos rfl] at h1
  have h2 := h.snoc (o := ⟨goI ms os q, o.k, o.p, fwL ms os o, wa, wc⟩) rfl (by dsimp only; rw [fwL_len]; exact hat.2.1) (by
    have := NWI_obj (T := T) (ws := ws) ho hl (t := 0) (by omega)
    dsimp only
    rw [fwL_len]
    rw [Nat.add_zero] at this
    rw [this]; rfl) (fun t ht => by
    dsimp only at ht ⊢
    rw [fwL_len] at ht
    have := NWI_obj (T := T) (ws := ws) ho hl (t := t + 1) (by omega)
    rw [show goI ms os q + 1 + t = goI ms os q + (t + 1) by omega, this]
    rfl)
  dsimp only at h2
  rw [fwL_len] at h2
  rw [show goI ms os (q + 1) = goI ms os q + 1 + o.ws.length by omega]
  exact h2
theorem goI_dead {q : Nat} {o : RO} (ho : os[q]? = some o) (hl : lvB ms o = false) : goI ms os (q + 1) = goI ms os q := by
  have h1 := goI_succ (ms := ms) ho
  rw [hl] at h1
  simpa using h1
theorem goI_all {ms : List Nat} {os : List RO} : goI ms os os.length = szL (lvs ms os) := by unfold goI; rw [List.take_length]
theorem NWI_ch (hc : Ch ws 0 os T) : ∃ os', Ch (NWI T ws ms os) 0 os' (szL (lvs ms os)) := by
  have : ∀ q, q ≤ os.length → ∃ os', Ch (NWI T ws ms os) 0 os' (goI ms os q) := by
    intro q
    induction q with
    | zero => intro _; exact ⟨[], rfl⟩
    | succ q ih =>
      intro hq
      obtain ⟨os', h⟩ := ih (by omega)
      have ho : os[q]? = some os[q] := List.getElem?_eq_getElem _
      cases hl : lvB ms os[q] with
      | true => exact ⟨_, slide_step hc h ho hl none 0⟩
      | false => exact ⟨os', by rw [goI_dead ho hl]; exact h⟩
  have := this os.length (Nat.le_refl _)
  rw [goI_all] at this
  exact this
theorem fwI_64 (h : HT n T ws st) (hc : Ch ws 0 os T) (z : Int) : In64 (fwI ms os z) := by
  have htn := h.tn
  have hnb := h.nb
  have hs := hc.sz
  unfold fwI
  split
  · rename_i j _
    have := goI_bd (ms := ms) (os := os) (q := j)
    unfold In64; omega
  · unfold In64; decide
theorem NWI_64 (h : HT n T ws st) (hc : Ch ws 0 os T) : ∀ y ∈ NWI T ws ms os, In64 y := by
  intro y hy
  unfold NWI at hy
  rcases List.mem_append.1 hy with hy | hy
  · obtain ⟨o, ho, hy⟩ := List.mem_flatMap.1 hy
    obtain ⟨j, hj⟩ := List.getElem?_of_mem (List.mem_filter.1 ho).1
    have hat := (hc.at hj).2
    unfold nwO at hy
    rcases List.mem_cons.1 hy with rfl | hy
    · exact (packI_un hat.2.1).1
    · unfold fwL at hy
      obtain ⟨t, ht, rfl⟩ := List.mem_map.1 hy
      have ht := List.mem_range.1 ht
      split
      · exact fwI_64 h hc _
      · rw [List.getD_eq_getElem?_getD, List.getElem?_eq_getElem ht]
        exact Ch.mem64 h hc (List.mem_of_getElem? hj) (List.getElem?_eq_getElem ht)
  · rcases List.mem_append.1 hy with hy | hy
    · rw [List.eq_of_mem_replicate hy]; unfold In64; decide
    · exact h.w64 y (List.mem_of_mem_drop hy)
end nw
section ops
variable {ps pf p bw bs pm bm bst bf n T w nR pw bw2 pz bz wc : Nat} {wa : Option Addr} {mv tv : Int} {ws : List Int} {st : List Bool} {os : List RO} {ms : List Nat} {rs : List RG} {fs wds sts : List Int} {xs : List WX} {C D : Nat} {Q A Z : Nat → Nat}
set_option maxHeartbeats 16000000 in
/-- Over: the heap of what stays. -/
theorem Heap14_ok (F : SF n T w nR ws st os ms rs fs) (h1n : 1 ≤ n) (h : SI n T w nR ws os ms xs sts wds mv C D Q A Z) (ho : OverP sts nR (partsI T (szL (lvs ms os)) : Nat)) :
    Does Try.prog 22 [ptr ps 0] (sldS ps pf p bw bs pm bm bst bf n T w nR pw bw2 pz bz ws st ms rs fs wa wc (szL (lvs ms os)) sts wds xs mv tv)
    (fun v l => ∃ (p' bw' bs' : Nat) (st' : List Bool), HT n (szL (lvs ms os)) (NWI T ws ms os) st' ∧ v = .tuple #[ptr p' 0, .int .i64 0] ∧ l = heapL p' bw' bs' n (NWI T ws ms os) (szL (lvs ms os)) st' ++ sldS ps pf p bw bs pm bm bst bf n T w nR pw bw2 pz bz ws st ms rs fs wa wc (szL (lvs ms os)) sts wds xs mv tv) := by
  have hsl := h.sl
  have hnR := F.nRT
  have htn := F.h.tn
  have hn6 := F.n6
  have hsz := F.hsz
  obtain ⟨hwd, _⟩ := h.over F.hc F.hR F.hF.w1 F.h.wl htn ho
  have hNl := NWI_len (ms := ms) F.hc F.h.wl htn
  subst hwd
  refine Does.of tiok Try.func22 (by kernel_rfl) rfl Try.ntmps22 rfl ?_
  intro W fr
  repeat' (first | (refine IsO ?_; first | refine JO_nil ?_ | refine V1 rfl rfl rfl ?_) | (refine IsAt ?_; (with_reducible refine T1 ?_)) | (refine IsJ ?_; first | refine J_seq ?_ | refine J_region ?_ | refine J_skip ?_ | refine J_ret ?_ | (refine IsCond ?_; refine J_cond_f rfl ?_)))
  refine JO_l (OL_call [0, 0, 0, 0, 0, 0, 0, 0, 0, 0, 0, 0, 0, 0] rfl rfl rfl (Over_spec hsl (by omega)) rfl) rfl rfl ?_
  rintro _ _ ⟨_, ⟨t, ht2, rfl, rfl⟩, rfl⟩
  obtain rfl : t = true := ht2.2 ho
  repeat' (first | (refine IsO ?_; first | refine JO_nil ?_ | refine V1 rfl rfl rfl ?_) | (refine IsAt ?_; (with_reducible refine T1 ?_)) | (refine IsJ ?_; first | refine J_seq ?_ | refine J_region ?_ | refine J_skip ?_ | refine J_ret ?_ | (refine IsCond ?_; refine J_cond_f rfl ?_)))
  refine J_drawk [sdB ps pf p pw pz wa xs.length wc (partsI T (szL (lvs ms os)) : Nat) mv tv] (fun H hl => hl.pick (is := [0]) rfl) [0, 0, 0, 5, 2, 0, 0, 0, 5, 2, 2, 0, 0, 0, 0] [0, 1, 2, 3, 5, 6, 7, 8, 4, 9, 10, 11, 12, 13, 14] (by kernel_rfl) (by kernel_rfl) ?_
  repeat' (refine IsX ?_; first | (refine JX_nil ?_; refine At_np ?_) | (refine JX_op rfl ?_; refine XsO ?_; first | (refine XsLoad ?_; refine XL1k rfl rfl rfl rfl rfl ?_) | refine XV1 rfl rfl rfl rfl ?_))
  refine JX_lk rfl rfl (OL_call [4] rfl rfl rfl (CellsWords_z (p := pw) (bw := bw2) (ws := NWI T ws ms os) (by omega)) rfl) rfl rfl ?_ ?_
  · rintro _ _ ⟨_, ⟨_, _, _, rfl, rfl⟩, rfl⟩ H hl
    exact hl.pick (is := [2]) rfl
  rintro _ _ ⟨_, ⟨a1, cap1, hn1, rfl, rfl⟩, rfl⟩ _
  refine JX_lk rfl rfl (OL_call [9, 6, 6, 6, 6, 6, 6, 6, 6] rfl rfl rfl (FwdTop_spec F.hF) rfl) rfl rfl ?_ ?_
  · rintro _ _ ⟨_, ⟨rfl, rfl⟩, rfl⟩ H hl
    exact hl.pick (is := [11]) rfl
  rintro _ _ ⟨_, ⟨rfl, rfl⟩, rfl⟩ _
  have hR1 : Reads (rowz 3 1 a1 (NWI T ws ms os).length cap1 (intsV (NWI T ws ms os))) 1 (NWI T ws ms os).length a1 cap1 (intsV (NWI T ws ms os)) := Reads.rowz (by simp [intsV]) hn1
  have hOf := Of_spec hR1 (NWI_64 F.h F.hc) (szL (lvs ms os)) (by omega) (by omega) (by omega)
  obtain ⟨os', hos'⟩ := NWI_ch (ms := ms) F.hc
  obtain ⟨st', hst'⟩ := ofF_ch (f := szL (lvs ms os) + 1) (st := List.replicate (NWI T ws ms os).length false) hos' (by omega)
  have hHT := of_tell (NWI_64 F.h F.hc) (by omega) (by omega) hst'
  rw [hst'] at hOf
  refine JX_lk rfl rfl (OL_call [9] rfl rfl rfl hOf rfl) rfl rfl ?_ ?_
  · rintro _ _ ⟨_, ⟨_, _, _, rfl, rfl⟩, rfl⟩ H hl
    exact hl.pick (is := [14]) rfl
  rintro _ _ ⟨_, ⟨p', bw', bs', rfl, rfl⟩, rfl⟩ _
  repeat' (refine IsX ?_; first | (refine JX_nil ?_; refine At_np ?_) | (refine JX_op rfl ?_; refine XsO ?_; first | (refine XsLoad ?_; refine XL1k rfl rfl rfl rfl rfl ?_) | refine XV1 rfl rfl rfl rfl ?_))
  repeat' (first | (refine IsO ?_; first | refine JO_nil ?_ | refine V1 rfl rfl rfl ?_) | (refine IsAt ?_; (with_reducible refine T1 ?_)) | (refine IsJ ?_; first | refine J_seq ?_ | refine J_region ?_ | refine J_skip ?_ | refine J_ret ?_ | (refine IsCond ?_; refine J_cond_f rfl ?_)))
  rw [hNl] at hHT
  refine At_ret' rfl rfl (.tmp rfl (.tmp rfl .nil)) rfl (fun H hl => ?_) ⟨p', bw', bs', st', hHT, rfl, rfl⟩
  rw [hNl] at hl
  exact hl.pick (is := [0, 0, 0, 11, 11, 11, 11, 10, 2, 2, 2, 1, 1, 1, 1, 1, 1]) rfl
end ops
end Go.Proofs.Ytahfnbpbdnmggaa
/-
  Our own: a sliding that runs: one state of it, its steps, rounds in which each worker steps once.
-/
set_option linter.unusedVariables false
set_option linter.unusedSimpArgs false
namespace Go.Proofs.Ytahfnbpbdnmggaa
open Go.Sep
/-- A state of a sliding. -/
structure RSt where
  xs : List WX
  sts : List Int
  wds : List Int
  mv : Int
  tv : Int
  C : Nat
  D : Nat
abbrev RPhi (T w nR : Nat) (ws : List Int) (os : List RO) (ms : List Nat) (s : RSt) : Nat := PhiI T w nR ws os ms s.xs s.C s.D
abbrev ROv (T nR : Nat) (os : List RO) (ms : List Nat) (s : RSt) : Prop := OverP s.sts nR (partsI T (szL (lvs ms os)) : Nat)
structure ROk (n T w nR : Nat) (ws : List Int) (os : List RO) (ms : List Nat) (W : Nat) (s : RSt) : Prop where
  si : ∃ Q A Z, SI n T w nR ws os ms s.xs s.sts s.wds s.mv s.C s.D Q A Z
  xl : s.xs.length = W
  t0 : 0 ≤ s.tv
  cd : s.C + s.D + RPhi T w nR ws os ms s ≤ 1000000000
/-- In a round: over, or less is left than at its beginning, or nobody of those who stepped gets on. -/
def RRnd (T w nR : Nat) (ws : List Int) (os : List RO) (ms : List Nat) (s : RSt) (m0 : Nat) (P : Nat → Prop) : Prop :=
  ROv T nR os ms s ∨ RPhi T w nR ws os ms s < m0 ∨ (RPhi T w nR ws os ms s ≤ m0 ∧ ∀ (j : Nat) (x : WX), P j → s.xs[j]? = some x → Stk nR s.sts x)
/-- What a step comes to. -/
def RNx (T w nR : Nat) (ws : List Int) (os : List RO) (ms : List Nat) (s s' : RSt) (j : Nat) : Prop :=
  (ROv T nR os ms s ∧ s' = s) ∨ (¬ ROv T nR os ms s ∧ (s'.tv = s.tv ∨ s'.tv = s.tv + 1) ∧ (RPhi T w nR ws os ms s' < RPhi T w nR ws os ms s ∨ (s'.xs = s.xs ∧ s'.sts = s.sts ∧ s'.C = s.C ∧ s'.D = s.D ∧ ∀ x, s.xs[j]? = some x → Stk nR s.sts x)))
theorem RRnd.step {T w nR : Nat} {ws : List Int} {os : List RO} {ms : List Nat} {s s' : RSt} {m0 j : Nat} {P P' : Nat → Prop} (h : RRnd T w nR ws os ms s m0 P) (hn : RNx T w nR ws os ms s s' j) (hP : ∀ i, P' i → P i ∨ i = j) : RRnd T w nR ws os ms s' m0 P' := by
  rcases hn with ⟨ho, rfl⟩ | ⟨hno, _, hlt | ⟨e1, e2, e3, e4, hk⟩⟩
  · exact .inl ho
  · rcases h with ho | h1 | ⟨h1, _⟩
    · exact absurd ho hno
    · exact .inr (.inl (by omega))
    · exact .inr (.inl (by omega))
  · have ep : RPhi T w nR ws os ms s' = RPhi T w nR ws os ms s := by unfold RPhi; rw [e1, e3, e4]
    rcases h with ho | h1 | ⟨h1, h2⟩
    · exact absurd ho hno
    · exact .inr (.inl (by omega))
    · refine .inr (.inr ⟨by omega, fun i x hi hx => ?_⟩)
      rw [e1] at hx
      rw [e2]
      rcases hP i hi with hi | rfl
      · exact h2 i x hi hx
      · exact hk x hx
theorem RRnd.done {n T w nR W : Nat} {ws : List Int} {os : List RO} {ms : List Nat} {s : RSt} {m0 : Nat} {P : Nat → Prop} (h : RRnd T w nR ws os ms s m0 P) (hs : ROk n T w nR ws os ms W s) (h1 : 1 ≤ W) (hP : ∀ j, j < W → P j) : ROv T nR os ms s ∨ RPhi T w nR ws os ms s < m0 := by
  rcases h with ho | h1 | ⟨_, h2⟩
  · exact .inl ho
  · exact .inr h1
  · obtain ⟨Q, A, Z, hS⟩ := hs.si
    exact .inl (hS.stuck (by rw [hs.xl]; exact h1) fun j x hj => h2 j x (hP j (by have := (List.getElem?_eq_some_iff.1 hj).1; rw [hs.xl] at this; exact this)) hj)
section ops
variable {ps pf p bw bs pm bm bst bf n T w nR pw bw2 pz bz wc W : Nat} {wa : Option Addr} {ws : List Int} {st : List Bool} {os : List RO} {ms : List Nat} {rs : List RG} {fs : List Int} {s : RSt}
abbrev sldR (ps pf p bw bs pm bm bst bf n T w nR pw bw2 pz bz : Nat) (ws : List Int) (st : List Bool) (ms : List Nat) (rs : List RG) (fs : List Int) (wa : Option Addr) (wc : Nat) (S : Nat) (s : RSt) : List HP :=
  sldS ps pf p bw bs pm bm bst bf n T w nR pw bw2 pz bz ws st ms rs fs wa wc S s.sts s.wds s.xs s.mv s.tv
theorem Step_run (F : SF n T w nR ws st os ms rs fs) (hs : ROk n T w nR ws os ms W s) (hW : W ≤ 64) {j : Nat} (hj : j < W) (ht : In64 (s.tv + 1)) :
    Does Try.prog 21 [ptr ps 0, .int .i64 j] (sldR ps pf p bw bs pm bm bst bf n T w nR pw bw2 pz bz ws st ms rs fs wa wc (szL (lvs ms os)) s)
    (fun v l => ∃ (s' : RSt) (e : Int), ROk n T w nR ws os ms W s' ∧ RNx T w nR ws os ms s s' j ∧ ((ROv T nR os ms s ∧ e = 12) ∨ (¬ ROv T nR os ms s ∧ e = 0)) ∧ v = .int .i64 e ∧
      l = sldR ps pf p bw bs pm bm bst bf n T w nR pw bw2 pz bz ws st ms rs fs wa wc (szL (lvs ms os)) s') := by
  obtain ⟨⟨Q, A, Z, hS⟩, hxl, ht0, hcd⟩ := hs
  have hsl := hS.sl
  have hnR := F.nRT
  have htn := F.h.tn
  have hn6 := F.n6
  obtain ⟨x, hx⟩ : ∃ x, s.xs[j]? = some x := ⟨s.xs[j]'(by omega), List.getElem?_eq_getElem _⟩
  by_cases ho : ROv T nR os ms s
  · refine (SlStep_end ⟨by omega, by omega⟩ hsl (by omega) ho).mono ?_
    rintro v l ⟨rfl, rfl⟩
    exact ⟨s, 12, ⟨⟨Q, A, Z, hS⟩, hxl, ht0, hcd⟩, .inl ⟨ho, rfl⟩, .inl ⟨ho, rfl⟩, rfl, rfl⟩
  · refine (Step_spec F hS hx (by omega) ht hcd ho).mono ?_
    rintro v l ⟨x', sts', wds', mv', tv', C', D', ⟨⟨Q', A', Z', hS'⟩, g1, g2, g3, g4⟩, rfl, rfl⟩
    refine ⟨⟨s.xs.set j x', sts', wds', mv', tv', C', D'⟩, 0, ⟨⟨Q', A', Z', hS'⟩, by rw [List.length_set]; exact hxl, by dsimp only; omega, Nat.le_trans g2 hcd⟩, .inr ⟨ho, g1, ?_⟩, .inr ⟨ho, rfl⟩, rfl, rfl⟩
    rcases g4 with g4 | ⟨k1, rfl, k3, k4, k5⟩
    · exact .inl g4
    · refine .inr ⟨set_sameV hx, k3, k4, k5, fun y hy => ?_⟩
      rw [hx] at hy; injection hy with hy; rw [← hy]; exact k1
/-- At the beginning. -/
theorem Phi_new {xs : List WX} (hxs : ∀ (j : Nat) (y : WX), xs[j]? = some y → y = wk0 j y.c) (hc : Ch ws 0 os T) (hR : nR = numR w T) (h1w : 1 ≤ w) (htn : T ≤ n) (hW : xs.length ≤ 64) : PhiI T w nR ws os ms xs 0 0 < 10 * (n + 10) * (n + 10) := by
  have hnR : nR ≤ n := by rw [hR]; exact Nat.le_trans (numR_le h1w) htn
  have hs := hc.sz
  have h2 : szL (lvs ms os) ≤ szL os := szL_filter
  have h3 := len_le_sz (L := lvs ms os)
  have a1 : ∀ m, m ≤ nR → ((List.range m).map (cRI w nR (lvs ms os))).sum ≤ m * (nR + 4) + (befR w m (lvs ms os)).length + 2 * szL (befR w m (lvs ms os)) := by
    intro m
    induction m with
    | zero => intro _; exact Nat.zero_le _
    | succ m ih =>
      intro hm
      have h1 := ih (by omega)
      rw [List.range_succ, List.map_append, List.sum_append]
      simp only [List.map_cons, List.map_nil, List.sum_cons, List.sum_nil]
      rw [befR_len, befR_next, Nat.succ_mul]
      rw [show cRI w nR (lvs ms os) m = nR + 4 + (inR w m (lvs ms os)).length + 2 * lvI w (lvs ms os) m from rfl]
      have : lvI w (lvs ms os) m = szL (inR w m (lvs ms os)) := rfl
      omega
  have a2 := a1 nR (Nat.le_refl _)
  rw [hR, befR_all ms h1w hc, ← hR] at a2
  have a3 : (xs.map (phiW nR ws)).sum ≤ 64 * (nR + 5) := by
    have : ∀ l : List WX, (∀ y ∈ l, y.fn = fnC) → (l.map (phiW nR ws)).sum = l.length * (nR + 5) := by
      intro l
      induction l with
      | nil => intro _; simp
      | cons y r ih =>
        intro hl
        rw [List.map_cons, List.sum_cons, ih fun z hz => hl z (.tail _ hz), phi_C (hl y (.head _)), List.length_cons, Nat.succ_mul]
        omega
    rw [this xs fun y hy => by
      obtain ⟨i, hi⟩ := List.getElem?_of_mem hy
      rw [hxs i y hi]]
    exact Nat.mul_le_mul_right _ hW
  have a4 : nR * (nR + 4) ≤ n * (n + 4) := Nat.mul_le_mul hnR (by omega)
  have a5 : partsI T (szL (lvs ms os)) ≤ n + 1 := by unfold partsI; omega
  have a6 : 10 * (n + 10) * (n + 10) = 10 * (n * n) + 200 * n + 1000 := by
    rw [Nat.mul_assoc, Nat.add_mul, Nat.mul_add, Nat.mul_add]
    omega
  have a7 : n * (n + 4) = n * n + n * 4 := Nat.mul_add ..
  rw [a7] at a4
  unfold PhiI
  rw [List.drop_zero]
  omega
end ops
end Go.Proofs.Ytahfnbpbdnmggaa
/-
  Our own: a sliding that runs: how it begins; what it tells.
-/
set_option linter.unusedVariables false
set_option linter.unusedSimpArgs false
namespace Go.Proofs.Ytahfnbpbdnmggaa
open Go.Sep
section ops
variable {ps pf p bw bs pm bm bst bf n T w nR pw bw2 pz bz wc W : Nat} {wa : Option Addr} {ws : List Int} {st : List Bool} {os : List RO} {ms : List Nat} {rs : List RG} {fs : List Int} {s : RSt}
theorem New_run (words : Int) (wk : Nat) (hw : 1 ≤ wk ∧ wk ≤ 64) (h64 : In64 words) (h : HT n T ws st) (hc : Ch ws 0 os T) (hM : MI n ms) (hld : LeadP os) (hyes : RightP ms os) (hn1 : 1 ≤ n) (hn2 : n ≤ 5000) :
    Does Try.prog 13 [ptr p 0, ptr pm 0, .int .i64 words, .int .i64 wk] (heapL p bw bs n ws T st ++ marksL pm bm n ms)
    (fun v l => ∃ (ps pf w nR bst bf pw bw2 pz bz : Nat) (rs : List RG) (fs : List Int) (wa : Option Addr) (wc : Nat) (s : RSt), SF n T w nR ws st os ms rs fs ∧ ROk n T w nR ws os ms wk s ∧ RPhi T w nR ws os ms s < 10 * (n + 10) * (n + 10) ∧ s.tv = 0 ∧ s.mv = 0 ∧
      v = .tuple #[ptr ps 0, .int .i64 0] ∧ l = sldR ps pf p bw bs pm bm bst bf n T w nR pw bw2 pz bz ws st ms rs fs wa wc (szL (lvs ms os)) s) := by
  refine (SliderNew_ok words wk hw h64 h hc hM hld hyes hn1).mono ?_
  rintro v l ⟨ps, pf, w, nR, bst, bf, pw, bw2, pz, bz, rs, fs, wa, wc, xs, hw2, hF, hnR, hxl, hxs, rfl, rfl⟩
  have hs := hc.sz
  have h2 : szL (lvs ms os) ≤ szL os := szL_filter
  have hP := Phi_new (ms := ms) hxs hc hnR (by omega) h.tn (by omega)
  have hb : (n + 10) * (n + 10) ≤ 5010 * 5010 := Nat.mul_le_mul (by omega) (by omega)
  have e : ((T : Int) - ((szL (lvs ms os) : Nat) : Int) + 16 - 1) / 16 = ((partsI T (szL (lvs ms os)) : Nat) : Int) := by unfold partsI; omega
  rw [e]
  have hP2 : PhiI T w nR ws os ms xs 0 0 < 10 * ((n + 10) * (n + 10)) := by rw [← Nat.mul_assoc]; exact hP
  exact ⟨ps, pf, w, nR, bst, bf, pw, bw2, pz, bz, rs, fs, wa, wc, ⟨xs, List.replicate (3 + nR) 0, ws, 0, 0, 0, 0⟩, ⟨h, hc, hM, hF, hnR, hyes, by omega⟩, ⟨⟨_, _, _, SI.new h.wl hxs⟩, hxl, Int.le_refl _, by show 0 + 0 + PhiI T w nR ws os ms xs 0 0 ≤ _; omega⟩, hP, rfl, rfl, rfl, rfl⟩
theorem Over_run (F : SF n T w nR ws st os ms rs fs) (hs : ROk n T w nR ws os ms W s) : Does Try.prog 20 [ptr ps 0] (sldR ps pf p bw bs pm bm bst bf n T w nR pw bw2 pz bz ws st ms rs fs wa wc (szL (lvs ms os)) s)
    (fun v l => ∃ t : Bool, (t = true ↔ ROv T nR os ms s) ∧ v = .bool t ∧ l = sldR ps pf p bw bs pm bm bst bf n T w nR pw bw2 pz bz ws st ms rs fs wa wc (szL (lvs ms os)) s) := by
  obtain ⟨Q, A, Z, hS⟩ := hs.si
  have hnR := F.nRT
  have htn := F.h.tn
  have hn6 := F.n6
  exact Over_spec hS.sl (by omega)
theorem Heap_run (F : SF n T w nR ws st os ms rs fs) (h1n : 1 ≤ n) (hs : ROk n T w nR ws os ms W s) (ho : ROv T nR os ms s) : Does Try.prog 22 [ptr ps 0] (sldR ps pf p bw bs pm bm bst bf n T w nR pw bw2 pz bz ws st ms rs fs wa wc (szL (lvs ms os)) s)
    (fun v l => ∃ (p' bw' bs' : Nat) (st' : List Bool), HT n (szL (lvs ms os)) (NWI T ws ms os) st' ∧ v = .tuple #[ptr p' 0, .int .i64 0] ∧ l = heapL p' bw' bs' n (NWI T ws ms os) (szL (lvs ms os)) st' ++ sldR ps pf p bw bs pm bm bst bf n T w nR pw bw2 pz bz ws st ms rs fs wa wc (szL (lvs ms os)) s) := by
  obtain ⟨Q, A, Z, hS⟩ := hs.si
  exact Heap14_ok F h1n hS ho
end ops
end Go.Proofs.Ytahfnbpbdnmggaa
/-
  Our own: the document's answer for layer 11 (besomref11.Reach): what is reached.
-/
set_option linter.unusedVariables false
set_option linter.unusedSimpArgs false
namespace Go.Proofs.Ytahfnbpbdnmggaa
open Go.Sep
/-- An object is reached. -/
inductive Rch (os : List RO) (rts : List Int) : Nat → Prop
  | root {z : Int} {j : Nat} {o : RO} (hz : z ∈ rts) (hj : os[j]? = some o) (he : z = (o.i : Int) + 1) : Rch os rts j
  | ref {i k j : Nat} {o o' : RO} {y : Int} (h : Rch os rts i) (hi : os[i]? = some o) (hk : (k : Int) < o.p) (hy : o.ws[k]? = some y) (hj : os[j]? = some o') (he : y = (o'.i : Int) + 1) : Rch os rts j
/-- How many are not told to be reached. -/
def cfB (out : List Bool) : Nat := out.countP fun b => !b
theorem cfB_set {out : List Bool} {j : Nat} (h : out[j]? = some false) : cfB (out.set j true) + 1 = cfB out := by
  have := countP_set (p := fun b : Bool => !b) (x' := true) h
  simp at this
  exact this
/-- What a reference leads to is told to be reached. -/
def HitI (os : List RO) (out : List Bool) (y : Int) : Prop := y = 0 ∨ ∀ (j : Nat) (o : RO), os[j]? = some o → y = (o.i : Int) + 1 → out[j]? = some true
def ClosI (os : List RO) (out : List Bool) (i k : Nat) : Prop := out[i]? = some true → ∀ (o : RO) (k' : Nat) (y : Int), os[i]? = some o → k' < k → (k' : Int) < o.p → o.ws[k']? = some y → HitI os out y
def upB (a b : List Bool) : Prop := ∀ j : Nat, a[j]? = some true → b[j]? = some true
theorem upB_set {a : List Bool} {j : Nat} : upB a (a.set j true) := fun i hi => by
  rw [List.getElem?_set]
  split
  · split
    · rfl
    · rename_i h1 h2
      exact absurd (h1 ▸ (List.getElem?_eq_some_iff.1 hi).1) h2
  · exact hi
theorem HitI.up {os : List RO} {a b : List Bool} {y : Int} (h : HitI os a y) (u : upB a b) : HitI os b y := h.imp id fun k j o hj he => u j (k j o hj he)
structure RcI (os : List RO) (rts : List Int) (out : List Bool) : Prop where
  len : out.length = os.length
  snd : ∀ j : Nat, out[j]? = some true → Rch os rts j
theorem RcI.set {ws : List Int} {T : Nat} {os : List RO} {rts : List Int} {out : List Bool} (h : RcI os rts out) {j : Nat} (hr : Rch os rts j) : RcI os rts (out.set j true) := by
  refine ⟨by rw [List.length_set]; exact h.len, fun i hi => ?_⟩
  rcases set_cases hi with ⟨rfl, _⟩ | ⟨_, hi⟩
  · exact hr
  · exact h.snd i hi
/-- What is closed has all that is reached. -/
theorem rch_closed {os : List RO} {rts : List Int} {out : List Bool} (hl : out.length = os.length) (hroot : ∀ z ∈ rts, HitI os out z) (hcl : ∀ i, i < os.length → ∀ k, ClosI os out i k) {j : Nat} (h : Rch os rts j) : out[j]? = some true := by
  induction h with
  | root hz hj he =>
    rcases hroot _ hz with h0 | h1
    · omega
    · exact h1 _ _ hj he
  | ref h hi hk hy hj he ih =>
    rcases hcl _ (List.getElem?_eq_some_iff.1 hi).1 _ ih _ _ _ hi (Nat.lt_succ_self _) hk hy with h0 | h1
    · omega
    · exact h1 _ _ hj he
end Go.Proofs.Ytahfnbpbdnmggaa
/-
  Our own: the document's answer for layer 11 (besomref11.Reach): its walk.
-/
set_option linter.unusedVariables false
set_option linter.unusedSimpArgs false
namespace Go.Proofs.Ytahfnbpbdnmggaa
open Go.Sep
section ops
variable {a : Option Addr} {cap : Nat} {os : List RO} {ra : Option Addr} {rc : Nat} {rts : List Int} {Rr : HP} {n T : Nat} {ws : List Int} {st : List Bool}
theorem Find_at (hc : Ch ws 0 os T) (size : Int) (hb : os.length ≤ 65536) {j : Nat} {o : RO} (hj : os[j]? = some o) : Does Try.prog 45 [refV size a os.length cap, .int .i64 (o.i : Int)] (refL a cap os) (fun v l => v = .int .i64 (j : Nat) ∧ l = refL a cap os) :=
  (Find_spec size (o.i : Int) hb).mono fun v l => by
    rintro ⟨r, hr, rfl, rfl⟩
    rcases hr with ⟨j', o', rfl, hj', he⟩ | ⟨rfl, hno⟩
    · have := Ch.one hc hj' hj (by omega)
      subst this
      exact ⟨rfl, rfl⟩
    · exact absurd rfl (hno o (List.mem_of_getElem? hj))
set_option maxHeartbeats 32000000 in
theorem Reach_spec (size : Int) (h : HT n T ws st) (hc : Ch ws 0 os T) (hld : LeadP os) (hrt : ∀ z ∈ rts, z = 0 ∨ ∃ (j : Nat) (o : RO), os[j]? = some o ∧ z = (o.i : Int) + 1) (hRo : Reads Rr 1 rts.length ra rc (intsV rts)) (hrl : rts.length ≤ 65536) :
    Does Try.prog 48 [refV size a os.length cap, .slice ra rts.length rc] (refL a cap os ++ [Rr])
    (fun v l => ∃ (out : List Bool) (b : Nat), out.length = os.length ∧ (∀ j : Nat, out[j]? = some true ↔ Rch os rts j) ∧ v = sl b os.length ∧ l = blk b (boolsV out) 4 :: (refL a cap os ++ [Rr])) := by
  have htn := h.tn
  have hnb := h.nb
  have hlen := hc.len
  have hobd : ∀ (j : Nat) (o : RO), os[j]? = some o → o.i < T := fun j o hj => by have := hc.o_lt hj; omega
  refine Does.of tiok Try.func48 (by kernel_rfl) rfl Try.ntmps48 rfl ?_
  intro W fr
  refine J_rowzf P0 ?_
  rintro ⟨hl, hn, hcp⟩
  have hR : Reads (objsZ a cap os) 5 os.length a cap (os.flatMap cellsO) := Reads.rowz hl hn
  refine J_fact (okW os) (fun w hs => RW_ok hs (.tail _ (.head _))) ?_
  intro ok
  repeat' (first | (refine IsO ?_; first | refine JO_nil ?_ | (refine IsG ?_; refine G1 rfl rfl ?_) | (refine IsMove ?_; first | refine M1 rfl rfl rfl ?_ | refine M2 rfl rfl rfl ?_) | (refine IsBin ?_; first | refine B1 rfl rfl rfl rfl ?_ | refine B2 rfl rfl rfl rfl ?_) | (refine IsLoad ?_; first | refine L1 rfl rfl rfl rfl ?_ | refine L2 rfl rfl rfl rfl rfl ?_) | (refine IsBox ?_; refine N1 rfl rfl rfl rfl (fun _ => ?_)) | refine V1 rfl rfl rfl ?_) | (refine IsAt ?_; first | (with_reducible first | refine T1 ?_ | refine T3 ?_ | refine T5 ?_ | refine T6 ?_) | ((with_reducible show At _ (PBlock _ _ (Exit.exit _)) _ _); refine At_block_hit ?_)) | (refine IsJ ?_; first | refine J_seq ?_ | refine J_region ?_ | refine J_block ?_ | refine J_skip ?_ | refine J_ret ?_ | refine J_exit ?_ | (refine IsCond ?_; first | refine J_cond_t rfl ?_ | refine J_cond_f rfl ?_ | refine K1 rfl ?_ | refine J_cb rfl (fun _ => ?_) (fun _ => ?_))))
  refine JO_l (OL_makeN rfl rfl rfl rfl (by omega) (by omega)) rfl rfl ?_
  rintro _ _ ⟨b, rfl, rfl⟩
  repeat' (first | (refine IsO ?_; first | refine JO_nil ?_ | (refine IsG ?_; refine G1 rfl rfl ?_) | (refine IsMove ?_; first | refine M1 rfl rfl rfl ?_ | refine M2 rfl rfl rfl ?_) | (refine IsBin ?_; first | refine B1 rfl rfl rfl rfl ?_ | refine B2 rfl rfl rfl rfl ?_) | (refine IsLoad ?_; first | refine L1 rfl rfl rfl rfl ?_ | refine L2 rfl rfl rfl rfl rfl ?_) | (refine IsBox ?_; refine N1 rfl rfl rfl rfl (fun _ => ?_)) | refine V1 rfl rfl rfl ?_) | (refine IsAt ?_; first | (with_reducible first | refine T1 ?_ | refine T3 ?_ | refine T5 ?_ | refine T6 ?_) | ((with_reducible show At _ (PBlock _ _ (Exit.exit _)) _ _); refine At_block_hit ?_)) | (refine IsJ ?_; first | refine J_seq ?_ | refine J_region ?_ | refine J_block ?_ | refine J_skip ?_ | refine J_ret ?_ | refine J_exit ?_ | (refine IsCond ?_; first | refine J_cond_t rfl ?_ | refine J_cond_f rfl ?_ | refine K1 rfl ?_ | refine J_cb rfl (fun _ => ?_) (fun _ => ?_))))
  rename_i bx
  rw [show List.replicate os.length (Value.bool false) = boolsV (List.replicate os.length false) by simp]
  refine J_loop (α := Nat × List Bool) (fun x => x.1 ≤ rts.length ∧ RcI os rts x.2 ∧ ∀ (q : Nat) (z : Int), q < x.1 → rts[q]? = some z → HitI os x.2 z)
    (fun x => [(1, .slice ra rts.length rc), (2, ptr bx 0), (5, sl b os.length), (15, .slice ra rts.length rc), (16, .int .i64 rts.length), (17, .int .i64 x.1)])
    (fun x => blk b (boolsV x.2) 4 :: blk bx [.int .i64 size, .slice a os.length cap] 33 :: (refL a cap os ++ [Rr])) (fun x => rts.length - x.1) (0, List.replicate os.length false)
    ⟨Nat.zero_le _, ⟨by simp, fun j hj => by rw [List.getElem?_replicate] at hj; split at hj <;> simp at hj⟩, fun q z hq => absurd hq (Nat.not_lt_zero _)⟩ (by repeat (first | exact True.intro | refine And.intro rfl ?_)) (fun H hl => hl) ?_
  rintro ⟨q, out⟩ ⟨hq, hI, hH⟩
  dsimp only at hq hI hH ⊢
  have hol := hI.len
  repeat' (first | (refine IsO ?_; first | refine JO_nil ?_ | (refine IsG ?_; refine G1 rfl rfl ?_) | (refine IsMove ?_; first | refine M1 rfl rfl rfl ?_ | refine M2 rfl rfl rfl ?_) | (refine IsBin ?_; first | refine B1 rfl rfl rfl rfl ?_ | refine B2 rfl rfl rfl rfl ?_) | (refine IsLoad ?_; first | refine L1 rfl rfl rfl rfl ?_ | refine L2 rfl rfl rfl rfl rfl ?_) | (refine IsBox ?_; refine N1 rfl rfl rfl rfl (fun _ => ?_)) | refine V1 rfl rfl rfl ?_) | (refine IsAt ?_; first | (with_reducible first | refine T1 ?_ | refine T3 ?_ | refine T5 ?_ | refine T6 ?_) | ((with_reducible show At _ (PBlock _ _ (Exit.exit _)) _ _); refine At_block_hit ?_)) | (refine IsJ ?_; first | refine J_seq ?_ | refine J_region ?_ | refine J_skip ?_ | refine J_ret ?_ | refine J_exit ?_ | (refine IsCond ?_; first | refine J_cond_t rfl ?_ | refine J_cond_f rfl ?_ | refine K1 rfl ?_ | refine J_cb rfl (fun _ => ?_) (fun _ => ?_))))
  · rename_i hlt
    refine J_block ?_
    obtain ⟨z, hz⟩ : ∃ z, rts[q]? = some z := ⟨rts[q]'(by omega), List.getElem?_eq_getElem _⟩
    refine J_fact _ (fun w hs => hRo.some (by omega) hs (by simp)) ?_
    rintro ⟨rb, ro, rfl⟩
    have hzb : z = 0 ∨ ∃ (j : Nat) (o : RO), os[j]? = some o ∧ z = (o.i : Int) + 1 := hrt z (List.mem_of_getElem? hz)
    have hround : ∀ out' : List Bool, RcI os rts out' → upB out out' → HitI os out' z → ∀ (q' : Nat) (z' : Int), q' < q + 1 → rts[q']? = some z' → HitI os out' z' := by
      intro out' _ hu hh q' z' hq' hz'
      by_cases e : q' = q
      · subst e; rw [hz] at hz'; injection hz' with hz'; subst hz'; exact hh
      · exact (hH q' z' (by omega) hz').up hu
    repeat' (first | (refine IsO ?_; first | refine JO_nil ?_ | (refine IsG ?_; refine G1 rfl rfl ?_) | (refine IsMove ?_; first | refine M1 rfl rfl rfl ?_ | refine M2 rfl rfl rfl ?_) | (refine IsBin ?_; first | refine B1 rfl rfl rfl rfl ?_ | refine B2 rfl rfl rfl rfl ?_) | (refine IsLoad ?_; first | refine L1 rfl rfl rfl rfl ?_ | refine L2 rfl rfl rfl rfl rfl ?_) | (refine IsBox ?_; refine N1 rfl rfl rfl rfl (fun _ => ?_)) | refine V1 rfl rfl rfl ?_) | (refine IsAt ?_; first | (with_reducible first | refine T1 ?_ | refine T3 ?_ | refine T5 ?_ | refine T6 ?_) | ((with_reducible show At _ (PBlock _ _ (Exit.exit _)) _ _); refine At_block_hit ?_)) | (refine IsJ ?_; first | refine J_seq ?_ | refine J_region ?_ | refine J_block ?_ | refine J_skip ?_ | refine J_ret ?_ | refine J_exit ?_ | (refine IsCond ?_; first | refine J_cond_t rfl ?_ | refine J_cond_f rfl ?_ | refine K1 rfl ?_ | refine J_cb rfl (fun _ => ?_) (fun _ => ?_))))
    refine JO_val (OV_idx (off := ro + q) rfl rfl rfl rfl (by omega) (by omega) (by simp)) rfl rfl ?_
    refine JO_q (OQ_read (i := q) (v := .int .i64 z) hRo (by simp) rfl rfl (by omega) (by simp [intsV, hz])) rfl rfl ?_
    rcases hzb with rfl | ⟨j, o, hj, rfl⟩
    · repeat' (first | (refine IsO ?_; first | refine JO_nil ?_ | (refine IsG ?_; refine G1 rfl rfl ?_) | (refine IsMove ?_; first | refine M1 rfl rfl rfl ?_ | refine M2 rfl rfl rfl ?_) | (refine IsBin ?_; first | refine B1 rfl rfl rfl rfl ?_ | refine B2 rfl rfl rfl rfl ?_) | (refine IsLoad ?_; first | refine L1 rfl rfl rfl rfl ?_ | refine L2 rfl rfl rfl rfl rfl ?_) | (refine IsBox ?_; refine N1 rfl rfl rfl rfl (fun _ => ?_)) | refine V1 rfl rfl rfl ?_) | (refine IsAt ?_; first | (with_reducible first | refine T1 ?_ | refine T3 ?_ | refine T5 ?_ | refine T6 ?_) | ((with_reducible show At _ (PBlock _ _ (Exit.exit _)) _ _); refine At_block_hit ?_)) | (refine IsJ ?_; first | refine J_seq ?_ | refine J_region ?_ | refine J_block ?_ | refine J_skip ?_ | refine J_ret ?_ | refine J_exit ?_ | (refine IsCond ?_; first | refine J_cond_t rfl ?_ | refine J_cond_f rfl ?_ | refine K1 rfl ?_ | refine J_cb rfl (fun _ => ?_) (fun _ => ?_))))
      exact At_round (q + 1, out) (by show rts.length - (q + 1) < rts.length - q; omega) ⟨by show q + 1 ≤ rts.length; omega, hI, hround out hI (fun _ h => h) (.inl rfl)⟩ (by repeat (first | exact True.intro | refine And.intro rfl ?_)) (fun H hl => hl)
    · have hoT := hobd j o hj
      have hjl := (List.getElem?_eq_some_iff.1 hj).1
      repeat' (first | (refine IsO ?_; first | refine JO_nil ?_ | (refine IsG ?_; refine G1 rfl rfl ?_) | (refine IsMove ?_; first | refine M1 rfl rfl rfl ?_ | refine M2 rfl rfl rfl ?_) | (refine IsBin ?_; first | refine B1 rfl rfl rfl rfl ?_ | refine B2 rfl rfl rfl rfl ?_) | (refine IsLoad ?_; first | refine L1 rfl rfl rfl rfl ?_ | refine L2 rfl rfl rfl rfl rfl ?_) | (refine IsBox ?_; refine N1 rfl rfl rfl rfl (fun _ => ?_)) | refine V1 rfl rfl rfl ?_) | (refine IsAt ?_; first | (with_reducible first | refine T1 ?_ | refine T3 ?_ | refine T5 ?_ | refine T6 ?_) | ((with_reducible show At _ (PBlock _ _ (Exit.exit _)) _ _); refine At_block_hit ?_)) | (refine IsJ ?_; first | refine J_seq ?_ | refine J_region ?_ | refine J_block ?_ | refine J_skip ?_ | refine J_ret ?_ | refine J_exit ?_ | (refine IsCond ?_; first | refine J_cond_t rfl ?_ | refine J_cond_f rfl ?_ | refine K1 rfl ?_ | refine J_cb rfl (fun _ => ?_) (fun _ => ?_))))
      refine J_draw [0, 1, 0, 0, 0, 1, 0, 2, 0, 2] (List.range 10) (by kernel_rfl) (by kernel_rfl) ?_
      repeat' (refine IsX ?_; first | (refine JX_nil ?_; refine At_np ?_) | (refine JX_op rfl ?_; refine XsO ?_; first | (refine XsBin ?_; refine XB2 rfl rfl rfl rfl rfl ?_) | (refine XsLoad ?_; refine XL2 rfl rfl rfl rfl rfl rfl ?_) | refine XV1 rfl rfl rfl rfl ?_))
      refine JX_val rfl rfl (OV_idx (off := ro + q) rfl rfl rfl rfl (by omega) (by omega) (by simp)) rfl rfl ?_
      refine JX_q rfl rfl (OQ_read (i := q) (v := .int .i64 ((o.i : Int) + 1)) hRo (by simp) rfl rfl (by omega) (by simp [intsV, hz])) rfl rfl ?_
      repeat' (refine IsX ?_; first | (refine JX_nil ?_; refine At_np ?_) | (refine JX_op rfl ?_; refine XsO ?_; first | (refine XsBin ?_; refine XB2 rfl rfl rfl rfl rfl ?_) | (refine XsLoad ?_; refine XL2 rfl rfl rfl rfl rfl rfl ?_) | refine XV1 rfl rfl rfl rfl ?_))
      rw [show (o.i : Int) + 1 - 1 = (o.i : Int) by omega]
      refine JX_l rfl rfl (OL_call [2, 2] rfl rfl rfl (Find_at hc size (by omega) hj) rfl) rfl rfl ?_
      rintro _ _ ⟨_, ⟨rfl, rfl⟩, rfl⟩
      refine JX_val rfl rfl (OV_idx (off := 0 + j) rfl rfl rfl rfl (by omega) (by omega) (by simp)) rfl rfl ?_
      rw [Nat.zero_add]
      refine JX_l0 rfl rfl (OL_store (i := 2) rfl rfl rfl rfl rfl rfl rfl (putL_bools true (by omega))) rfl ?_
      rintro _ _ rfl
      repeat' (refine IsX ?_; first | (refine JX_nil ?_; refine At_np ?_) | (refine JX_op rfl ?_; refine XsO ?_; first | (refine XsBin ?_; refine XB2 rfl rfl rfl rfl rfl ?_) | (refine XsLoad ?_; refine XL2 rfl rfl rfl rfl rfl rfl ?_) | refine XV1 rfl rfl rfl rfl ?_))
      repeat' (first | (refine IsO ?_; first | refine JO_nil ?_ | (refine IsG ?_; refine G1 rfl rfl ?_) | (refine IsMove ?_; first | refine M1 rfl rfl rfl ?_ | refine M2 rfl rfl rfl ?_) | (refine IsBin ?_; first | refine B1 rfl rfl rfl rfl ?_ | refine B2 rfl rfl rfl rfl ?_) | (refine IsLoad ?_; first | refine L1 rfl rfl rfl rfl ?_ | refine L2 rfl rfl rfl rfl rfl ?_) | (refine IsBox ?_; refine N1 rfl rfl rfl rfl (fun _ => ?_)) | refine V1 rfl rfl rfl ?_) | (refine IsAt ?_; first | (with_reducible first | refine T1 ?_ | refine T3 ?_ | refine T5 ?_ | refine T6 ?_) | ((with_reducible show At _ (PBlock _ _ (Exit.exit _)) _ _); refine At_block_hit ?_)) | (refine IsJ ?_; first | refine J_seq ?_ | refine J_region ?_ | refine J_block ?_ | refine J_skip ?_ | refine J_ret ?_ | refine J_exit ?_ | (refine IsCond ?_; first | refine J_cond_t rfl ?_ | refine J_cond_f rfl ?_ | refine K1 rfl ?_ | refine J_cb rfl (fun _ => ?_) (fun _ => ?_))))
      exact At_round (q + 1, out.set j true) (by show rts.length - (q + 1) < rts.length - q; omega) ⟨by show q + 1 ≤ rts.length; omega, RcI.set (ws := ws) (T := T) hI (.root (List.mem_of_getElem? hz) hj rfl), hround _ (RcI.set (ws := ws) (T := T) hI (.root (List.mem_of_getElem? hz) hj rfl)) upB_set
        (.inr fun j' o' hj' he => by
          have := Ch.one hc hj' hj (by omega)
          subst this
          rw [List.getElem?_set, if_pos rfl, if_pos (by omega)])⟩ (by repeat (first | exact True.intro | refine And.intro rfl ?_)) (fun H hl => hl.pick (is := [0, 2, 0, 0, 0]) rfl)
  · have hqe : q = rts.length := by omega
    subst hqe
    have hroot : ∀ z ∈ rts, HitI os out z := fun z hz => by
      obtain ⟨k, hk⟩ := List.getElem?_of_mem hz
      exact hH k z (List.getElem?_eq_some_iff.1 hk).1 hk
    refine J_block ?_
    refine J_loop (α := List Bool × Bool) (fun x => RcI os rts x.1 ∧ (∀ z ∈ rts, HitI os x.1 z) ∧ (x.2 = false → ∀ i, i < os.length → ∀ k, ClosI os x.1 i k))
      (fun x => [(2, ptr bx 0), (5, sl b os.length), (7, .bool x.2)]) (fun x => blk b (boolsV x.1) 4 :: blk bx [.int .i64 size, .slice a os.length cap] 33 :: (refL a cap os ++ [Rr]))
      (fun x => if x.2 then cfB x.1 + 1 else 0) (out, true) ⟨hI, hroot, fun e => by cases e⟩ (by repeat (first | exact True.intro | refine And.intro rfl ?_)) (fun H hl => hl) ?_
    clear hI hH hol hroot
    rintro ⟨out, more⟩ ⟨hI, hroot, hcl⟩
    dsimp only at hI hroot hcl ⊢
    have hol := hI.len
    cases more with
    | false =>
      repeat' (first | (refine IsO ?_; first | refine JO_nil ?_ | (refine IsG ?_; refine G1 rfl rfl ?_) | (refine IsMove ?_; first | refine M1 rfl rfl rfl ?_ | refine M2 rfl rfl rfl ?_) | (refine IsBin ?_; first | refine B1 rfl rfl rfl rfl ?_ | refine B2 rfl rfl rfl rfl ?_) | (refine IsLoad ?_; first | refine L1 rfl rfl rfl rfl ?_ | refine L2 rfl rfl rfl rfl rfl ?_) | (refine IsBox ?_; refine N1 rfl rfl rfl rfl (fun _ => ?_)) | refine V1 rfl rfl rfl ?_) | (refine IsAt ?_; first | (with_reducible first | refine T1 ?_ | refine T3 ?_ | refine T5 ?_ | refine T6 ?_) | ((with_reducible show At _ (PBlock _ _ (Exit.exit _)) _ _); refine At_block_hit ?_)) | (refine IsJ ?_; first | refine J_seq ?_ | refine J_region ?_ | refine J_block ?_ | refine J_skip ?_ | refine J_ret ?_ | refine J_exit ?_ | (refine IsCond ?_; first | refine J_cond_t rfl ?_ | refine J_cond_f rfl ?_ | refine K1 rfl ?_ | refine J_cb rfl (fun _ => ?_) (fun _ => ?_))))
      exact At_ret rfl rfl (.tmp rfl .nil) rfl (is := [0, 1, 1, 1]) rfl ⟨out, b, hol, fun j => ⟨hI.snd j, fun hr => rch_closed hol hroot (hcl rfl) hr⟩, rfl, rfl⟩
    | true =>
      repeat' (first | (refine IsO ?_; first | refine JO_nil ?_ | (refine IsG ?_; refine G1 rfl rfl ?_) | (refine IsMove ?_; first | refine M1 rfl rfl rfl ?_ | refine M2 rfl rfl rfl ?_) | (refine IsBin ?_; first | refine B1 rfl rfl rfl rfl ?_ | refine B2 rfl rfl rfl rfl ?_) | (refine IsLoad ?_; first | refine L1 rfl rfl rfl rfl ?_ | refine L2 rfl rfl rfl rfl rfl ?_) | (refine IsBox ?_; refine N1 rfl rfl rfl rfl (fun _ => ?_)) | refine V1 rfl rfl rfl ?_) | (refine IsAt ?_; first | (with_reducible first | refine T1 ?_ | refine T3 ?_ | refine T5 ?_ | refine T6 ?_) | ((with_reducible show At _ (PBlock _ _ (Exit.exit _)) _ _); refine At_block_hit ?_)) | (refine IsJ ?_; first | refine J_seq ?_ | refine J_region ?_ | refine J_block ?_ | refine J_skip ?_ | refine J_ret ?_ | refine J_exit ?_ | (refine IsCond ?_; first | refine J_cond_t rfl ?_ | refine J_cond_f rfl ?_ | refine K1 rfl ?_ | refine J_cb rfl (fun _ => ?_) (fun _ => ?_))))
      refine J_loop (α := Nat × List Bool × Bool) (fun x => x.1 ≤ os.length ∧ RcI os rts x.2.1 ∧ upB out x.2.1 ∧ cfB x.2.1 ≤ cfB out ∧ (x.2.2 = true → cfB x.2.1 < cfB out) ∧ (x.2.2 = false → ∀ i, i < x.1 → ∀ k, ClosI os x.2.1 i k))
        (fun x => [(2, ptr bx 0), (5, sl b os.length), (7, .bool x.2.2), (37, .slice a os.length cap), (38, .int .i64 os.length), (39, .int .i64 x.1)]) (fun x => blk b (boolsV x.2.1) 4 :: blk bx [.int .i64 size, .slice a os.length cap] 33 :: (refL a cap os ++ [Rr]))
        (fun x => os.length - x.1) (0, out, false) ⟨Nat.zero_le _, hI, fun _ h => h, Nat.le_refl _, (fun e => by cases e), fun _ i hi => absurd hi (Nat.not_lt_zero _)⟩ (by repeat (first | exact True.intro | refine And.intro rfl ?_)) (fun H hl => hl) ?_
      rintro ⟨i, out1, more⟩ ⟨hi, hI1, hu1, hc1, hm1, hcl1⟩
      dsimp only at hi hI1 hu1 hc1 hm1 hcl1 ⊢
      repeat' (first | (refine IsO ?_; first | refine JO_nil ?_ | (refine IsG ?_; refine G1 rfl rfl ?_) | (refine IsMove ?_; first | refine M1 rfl rfl rfl ?_ | refine M2 rfl rfl rfl ?_) | (refine IsBin ?_; first | refine B1 rfl rfl rfl rfl ?_ | refine B2 rfl rfl rfl rfl ?_) | (refine IsLoad ?_; first | refine L1 rfl rfl rfl rfl ?_ | refine L2 rfl rfl rfl rfl rfl ?_) | (refine IsBox ?_; refine N1 rfl rfl rfl rfl (fun _ => ?_)) | refine V1 rfl rfl rfl ?_) | (refine IsAt ?_; first | (with_reducible first | refine T1 ?_ | refine T3 ?_ | refine T5 ?_ | refine T6 ?_) | ((with_reducible show At _ (PBlock _ _ (Exit.exit _)) _ _); refine At_block_hit ?_)) | (refine IsJ ?_; first | refine J_seq ?_ | refine J_region ?_ | refine J_skip ?_ | refine J_ret ?_ | refine J_exit ?_ | (refine IsCond ?_; first | refine J_cond_t rfl ?_ | refine J_cond_f rfl ?_ | refine K1 rfl ?_ | refine J_cb rfl (fun _ => ?_) (fun _ => ?_))))
      · rename_i hlt
        refine J_block ?_
        obtain ⟨o, ho⟩ : ∃ o, os[i]? = some o := ⟨os[i]'(by omega), List.getElem?_eq_getElem _⟩
        have hot := hc.o_lt ho
        obtain ⟨_, k2, k3, k4, k5⟩ := findR_some (x := 0) h hc ho
        have hgb := of_decide_eq_true k3
        obtain ⟨m, hm⟩ := Int.eq_ofNat_of_zero_le hgb.2.2.2.2.1
        have hmw : m ≤ o.ws.length := by omega
        refine J_fact _ (fun w hs => hR.some (by omega) hs (by simp)) ?_
        rintro ⟨b2, of, rfl⟩
        repeat' (first | (refine IsO ?_; first | refine JO_nil ?_ | (refine IsG ?_; refine G1 rfl rfl ?_) | (refine IsMove ?_; first | refine M1 rfl rfl rfl ?_ | refine M2 rfl rfl rfl ?_) | (refine IsBin ?_; first | refine B1 rfl rfl rfl rfl ?_ | refine B2 rfl rfl rfl rfl ?_) | (refine IsLoad ?_; first | refine L1 rfl rfl rfl rfl ?_ | refine L2 rfl rfl rfl rfl rfl ?_) | (refine IsBox ?_; refine N1 rfl rfl rfl rfl (fun _ => ?_)) | refine V1 rfl rfl rfl ?_) | (refine IsAt ?_; first | (with_reducible first | refine T1 ?_ | refine T3 ?_ | refine T5 ?_ | refine T6 ?_) | ((with_reducible show At _ (PBlock _ _ (Exit.exit _)) _ _); refine At_block_hit ?_)) | (refine IsJ ?_; first | refine J_seq ?_ | refine J_region ?_ | refine J_block ?_ | refine J_skip ?_ | refine J_ret ?_ | refine J_exit ?_ | (refine IsCond ?_; first | refine J_cond_t rfl ?_ | refine J_cond_f rfl ?_ | refine K1 rfl ?_ | refine J_cb rfl (fun _ => ?_) (fun _ => ?_))))
        refine J_loop (α := Nat × List Bool × Bool) (fun x => x.1 ≤ m ∧ RcI os rts x.2.1 ∧ upB out x.2.1 ∧ cfB x.2.1 ≤ cfB out ∧ (x.2.2 = true → cfB x.2.1 < cfB out) ∧ (x.2.2 = false → (∀ i', i' < i → ∀ k, ClosI os x.2.1 i' k) ∧ ClosI os x.2.1 i x.1))
          (fun x => [(2, ptr bx 0), (5, sl b os.length), (7, .bool x.2.2), (8, .int .i64 i), (9, .int .i64 x.1), (37, .slice (some ⟨b2, of, none⟩) os.length cap), (38, .int .i64 os.length), (39, .int .i64 i)]) (fun x => blk b (boolsV x.2.1) 4 :: blk bx [.int .i64 size, .slice (some ⟨b2, of, none⟩) os.length cap] 33 :: (refL (some ⟨b2, of, none⟩) cap os ++ [Rr]))
          (fun x => m - x.1) (0, out1, more) ⟨Nat.zero_le _, hI1, hu1, hc1, hm1, fun e => ⟨hcl1 e, fun _ _ k' _ _ hk' => absurd hk' (Nat.not_lt_zero _)⟩⟩ (by repeat (first | exact True.intro | refine And.intro rfl ?_)) (fun H hl => hl) ?_
        clear hI1 hu1 hc1 hm1 hcl1
        rintro ⟨k, out1, more⟩ ⟨hk, hI1, hu1, hc1, hm1, hcl1⟩
        dsimp only at hk hI1 hu1 hc1 hm1 hcl1 ⊢
        have hol1 := hI1.len
        obtain ⟨bi, hbi⟩ : ∃ bi, out1[i]? = some bi := ⟨out1[i]'(by omega), List.getElem?_eq_getElem _⟩
        repeat' (first | (refine IsO ?_; first | refine JO_nil ?_ | (refine IsG ?_; refine G1 rfl rfl ?_) | (refine IsMove ?_; first | refine M1 rfl rfl rfl ?_ | refine M2 rfl rfl rfl ?_) | (refine IsBin ?_; first | refine B1 rfl rfl rfl rfl ?_ | refine B2 rfl rfl rfl rfl ?_) | (refine IsLoad ?_; first | refine L1 rfl rfl rfl rfl ?_ | refine L2 rfl rfl rfl rfl rfl ?_) | (refine IsBox ?_; refine N1 rfl rfl rfl rfl (fun _ => ?_)) | refine V1 rfl rfl rfl ?_) | (refine IsAt ?_; first | (with_reducible first | refine T1 ?_ | refine T3 ?_ | refine T5 ?_ | refine T6 ?_) | ((with_reducible show At _ (PBlock _ _ (Exit.exit _)) _ _); refine At_block_hit ?_)) | (refine IsJ ?_; first | refine J_seq ?_ | refine J_region ?_ | refine J_skip ?_ | refine J_ret ?_ | refine J_exit ?_ | (refine IsCond ?_; first | refine J_cond_t rfl ?_ | refine J_cond_f rfl ?_ | refine K1 rfl ?_ | refine J_cb rfl (fun _ => ?_) (fun _ => ?_))))
        refine JO_val (OV_idx (off := 0 + i) rfl rfl rfl rfl (by omega) (by omega) (by simp)) rfl rfl ?_
        rw [Nat.zero_add]
        refine JO_q (OQ_load (v := .bool bi) rfl rfl (.head _) (by simp [hbi])) rfl rfl ?_
        cases bi with
        | false =>
          repeat' (first | (refine IsO ?_; first | refine JO_nil ?_ | (refine IsG ?_; refine G1 rfl rfl ?_) | (refine IsMove ?_; first | refine M1 rfl rfl rfl ?_ | refine M2 rfl rfl rfl ?_) | (refine IsBin ?_; first | refine B1 rfl rfl rfl rfl ?_ | refine B2 rfl rfl rfl rfl ?_) | (refine IsLoad ?_; first | refine L1 rfl rfl rfl rfl ?_ | refine L2 rfl rfl rfl rfl rfl ?_) | (refine IsBox ?_; refine N1 rfl rfl rfl rfl (fun _ => ?_)) | refine V1 rfl rfl rfl ?_) | (refine IsAt ?_; first | (with_reducible first | refine T1 ?_ | refine T3 ?_ | refine T5 ?_ | refine T6 ?_) | ((with_reducible show At _ (PBlock _ _ (Exit.exit _)) _ _); refine At_block_hit ?_)) | (refine IsJ ?_; first | refine J_seq ?_ | refine J_region ?_ | refine J_block ?_ | refine J_skip ?_ | refine J_ret ?_ | refine J_exit ?_ | (refine IsCond ?_; first | refine J_cond_t rfl ?_ | refine J_cond_f rfl ?_ | refine K1 rfl ?_ | refine J_cb rfl (fun _ => ?_) (fun _ => ?_))))
          refine At_round (i + 1, out1, more) (by show os.length - (i + 1) < os.length - i; omega) ⟨by show i + 1 ≤ os.length; omega, hI1, hu1, hc1, hm1, fun e i' hi' k' => ?_⟩ (by repeat (first | exact True.intro | refine And.intro rfl ?_)) (fun H hl => hl)
          by_cases e2 : i' = i
          · subst e2
            intro ht
            rw [hbi] at ht
            simp at ht
          · exact (hcl1 e).1 i' (by dsimp only at hi'; omega) k'
        | true =>
          repeat' (first | (refine IsO ?_; first | refine JO_nil ?_ | (refine IsG ?_; refine G1 rfl rfl ?_) | (refine IsMove ?_; first | refine M1 rfl rfl rfl ?_ | refine M2 rfl rfl rfl ?_) | (refine IsBin ?_; first | refine B1 rfl rfl rfl rfl ?_ | refine B2 rfl rfl rfl rfl ?_) | (refine IsLoad ?_; first | refine L1 rfl rfl rfl rfl ?_ | refine L2 rfl rfl rfl rfl rfl ?_) | (refine IsBox ?_; refine N1 rfl rfl rfl rfl (fun _ => ?_)) | refine V1 rfl rfl rfl ?_) | (refine IsAt ?_; first | (with_reducible first | refine T1 ?_ | refine T3 ?_ | refine T5 ?_ | refine T6 ?_) | ((with_reducible show At _ (PBlock _ _ (Exit.exit _)) _ _); refine At_block_hit ?_)) | (refine IsJ ?_; first | refine J_seq ?_ | refine J_region ?_ | refine J_block ?_ | refine J_skip ?_ | refine J_ret ?_ | refine J_exit ?_ | (refine IsCond ?_; first | refine J_cond_t rfl ?_ | refine J_cond_f rfl ?_ | refine K1 rfl ?_ | refine J_cb rfl (fun _ => ?_) (fun _ => ?_))))
          refine JO_val (OV_idx (off := of + i * 5) rfl rfl rfl rfl (by omega) (by omega) (by simp)) rfl rfl ?_
          repeat' (first | (refine IsO ?_; first | refine JO_nil ?_ | (refine IsG ?_; refine G1 rfl rfl ?_) | (refine IsMove ?_; first | refine M1 rfl rfl rfl ?_ | refine M2 rfl rfl rfl ?_) | (refine IsBin ?_; first | refine B1 rfl rfl rfl rfl ?_ | refine B2 rfl rfl rfl rfl ?_) | (refine IsLoad ?_; first | refine L1 rfl rfl rfl rfl ?_ | refine L2 rfl rfl rfl rfl rfl ?_) | (refine IsBox ?_; refine N1 rfl rfl rfl rfl (fun _ => ?_)) | refine V1 rfl rfl rfl ?_) | (refine IsAt ?_; first | (with_reducible first | refine T1 ?_ | refine T3 ?_ | refine T5 ?_ | refine T6 ?_) | ((with_reducible show At _ (PBlock _ _ (Exit.exit _)) _ _); refine At_block_hit ?_)) | (refine IsJ ?_; first | refine J_seq ?_ | refine J_region ?_ | refine J_block ?_ | refine J_skip ?_ | refine J_ret ?_ | refine J_exit ?_ | (refine IsCond ?_; first | refine J_cond_t rfl ?_ | refine J_cond_f rfl ?_ | refine K1 rfl ?_ | refine J_cb rfl (fun _ => ?_) (fun _ => ?_))))
          refine JO_q (OQ_read (i := i * 5 + 3) (v := .int .i64 o.p) hR (by simp) rfl rfl (by omega) (by rw [objs_get ho (by omega)]; rfl)) rfl rfl ?_
          repeat' (first | (refine IsO ?_; first | refine JO_nil ?_ | (refine IsG ?_; refine G1 rfl rfl ?_) | (refine IsMove ?_; first | refine M1 rfl rfl rfl ?_ | refine M2 rfl rfl rfl ?_) | (refine IsBin ?_; first | refine B1 rfl rfl rfl rfl ?_ | refine B2 rfl rfl rfl rfl ?_) | (refine IsLoad ?_; first | refine L1 rfl rfl rfl rfl ?_ | refine L2 rfl rfl rfl rfl rfl ?_) | (refine IsBox ?_; refine N1 rfl rfl rfl rfl (fun _ => ?_)) | refine V1 rfl rfl rfl ?_) | (refine IsAt ?_; first | (with_reducible first | refine T1 ?_ | refine T3 ?_ | refine T5 ?_ | refine T6 ?_) | ((with_reducible show At _ (PBlock _ _ (Exit.exit _)) _ _); refine At_block_hit ?_)) | (refine IsJ ?_; first | refine J_seq ?_ | refine J_region ?_ | refine J_block ?_ | refine J_skip ?_ | refine J_ret ?_ | refine J_exit ?_ | (refine IsCond ?_; first | refine J_cond_t rfl ?_ | refine J_cond_f rfl ?_ | refine K1 rfl ?_ | refine J_cb rfl (fun _ => ?_) (fun _ => ?_))))
          · rename_i hlt2
            have hkm : k < m := by omega
            obtain ⟨x, hx⟩ : ∃ x, o.ws[k]? = some x := ⟨o.ws[k]'(by omega), List.getElem?_eq_getElem _⟩
            have hRW := RW.reads (List.mem_of_getElem? ho) ok
            refine JO_fact _ (fun w hs => hRW.some (by omega) hs (by simp)) ?_
            rintro ⟨wb, wo, hwa⟩
            rw [hwa] at hRW
            refine JO_val (OV_idx (off := of + i * 5) rfl rfl rfl rfl (by omega) (by omega) (by simp)) rfl rfl ?_
            repeat' (first | (refine IsO ?_; first | refine JO_nil ?_ | (refine IsG ?_; refine G1 rfl rfl ?_) | (refine IsMove ?_; first | refine M1 rfl rfl rfl ?_ | refine M2 rfl rfl rfl ?_) | (refine IsBin ?_; first | refine B1 rfl rfl rfl rfl ?_ | refine B2 rfl rfl rfl rfl ?_) | (refine IsLoad ?_; first | refine L1 rfl rfl rfl rfl ?_ | refine L2 rfl rfl rfl rfl rfl ?_) | (refine IsBox ?_; refine N1 rfl rfl rfl rfl (fun _ => ?_)) | refine V1 rfl rfl rfl ?_) | (refine IsAt ?_; first | (with_reducible first | refine T1 ?_ | refine T3 ?_ | refine T5 ?_ | refine T6 ?_) | ((with_reducible show At _ (PBlock _ _ (Exit.exit _)) _ _); refine At_block_hit ?_)) | (refine IsJ ?_; first | refine J_seq ?_ | refine J_region ?_ | refine J_block ?_ | refine J_skip ?_ | refine J_ret ?_ | refine J_exit ?_ | (refine IsCond ?_; first | refine J_cond_t rfl ?_ | refine J_cond_f rfl ?_ | refine K1 rfl ?_ | refine J_cb rfl (fun _ => ?_) (fun _ => ?_))))
            refine JO_q (OQ_read (i := i * 5 + 4) (v := .slice o.wa o.ws.length o.wc) hR (by simp) rfl rfl (by omega) (by rw [objs_get ho (by omega)]; rfl)) rfl rfl ?_
            rw [hwa]
            repeat' (first | (refine IsO ?_; first | refine JO_nil ?_ | (refine IsG ?_; refine G1 rfl rfl ?_) | (refine IsMove ?_; first | refine M1 rfl rfl rfl ?_ | refine M2 rfl rfl rfl ?_) | (refine IsBin ?_; first | refine B1 rfl rfl rfl rfl ?_ | refine B2 rfl rfl rfl rfl ?_) | (refine IsLoad ?_; first | refine L1 rfl rfl rfl rfl ?_ | refine L2 rfl rfl rfl rfl rfl ?_) | (refine IsBox ?_; refine N1 rfl rfl rfl rfl (fun _ => ?_)) | refine V1 rfl rfl rfl ?_) | (refine IsAt ?_; first | (with_reducible first | refine T1 ?_ | refine T3 ?_ | refine T5 ?_ | refine T6 ?_) | ((with_reducible show At _ (PBlock _ _ (Exit.exit _)) _ _); refine At_block_hit ?_)) | (refine IsJ ?_; first | refine J_seq ?_ | refine J_region ?_ | refine J_block ?_ | refine J_skip ?_ | refine J_ret ?_ | refine J_exit ?_ | (refine IsCond ?_; first | refine J_cond_t rfl ?_ | refine J_cond_f rfl ?_ | refine K1 rfl ?_ | refine J_cb rfl (fun _ => ?_) (fun _ => ?_))))
            refine JO_val (OV_idx (off := wo + k) rfl rfl rfl rfl (by omega) (by omega) (by simp)) rfl rfl ?_
            refine JO_q (OQ_read (i := k) (v := .int .i64 x) hRW (by simp) rfl rfl (by omega) (by simp [hx])) rfl rfl ?_
            have hclos : ∀ out2 : List Bool, (∀ o', os[i]? = some o' → HitI os out2 x) → upB out1 out2 → (∀ (k' : Nat) (y : Int), k' < k → (k' : Int) < o.p → o.ws[k']? = some y → HitI os out1 y) → ClosI os out2 i (k + 1) := by
              intro out2 hh hu hprev _ o' k' y ho' hk' hkp hy
              rw [ho] at ho'; injection ho' with ho'; subst ho'
              by_cases e : k' = k
              · subst e; rw [hx] at hy; injection hy with hy; subst hy; exact hh _ ho
              · exact (hprev k' y (by omega) hkp hy).up hu
            rcases hld i o ho k x (by omega) hx with rfl | ⟨j', o', hj', rfl⟩
            · repeat' (first | (refine IsO ?_; first | refine JO_nil ?_ | (refine IsG ?_; refine G1 rfl rfl ?_) | (refine IsMove ?_; first | refine M1 rfl rfl rfl ?_ | refine M2 rfl rfl rfl ?_) | (refine IsBin ?_; first | refine B1 rfl rfl rfl rfl ?_ | refine B2 rfl rfl rfl rfl ?_) | (refine IsLoad ?_; first | refine L1 rfl rfl rfl rfl ?_ | refine L2 rfl rfl rfl rfl rfl ?_) | (refine IsBox ?_; refine N1 rfl rfl rfl rfl (fun _ => ?_)) | refine V1 rfl rfl rfl ?_) | (refine IsAt ?_; first | (with_reducible first | refine T1 ?_ | refine T3 ?_ | refine T5 ?_ | refine T6 ?_) | ((with_reducible show At _ (PBlock _ _ (Exit.exit _)) _ _); refine At_block_hit ?_)) | (refine IsJ ?_; first | refine J_seq ?_ | refine J_region ?_ | refine J_block ?_ | refine J_skip ?_ | refine J_ret ?_ | refine J_exit ?_ | (refine IsCond ?_; first | refine J_cond_t rfl ?_ | refine J_cond_f rfl ?_ | refine K1 rfl ?_ | refine J_cb rfl (fun _ => ?_) (fun _ => ?_))))
              refine At_round (k + 1, out1, more) (by show m - (k + 1) < m - k; omega) ⟨by show k + 1 ≤ m; omega, hI1, hu1, hc1, hm1, fun e => ⟨(hcl1 e).1, hclos out1 (fun _ _ => .inl rfl) (fun _ h => h) fun k' y hk' hkp hy => (hcl1 e).2 hbi o k' y ho hk' hkp hy⟩⟩ (by repeat (first | exact True.intro | refine And.intro rfl ?_)) (fun H hl => hl)
            · have hoT := hobd j' o' hj'
              have hjl' := (List.getElem?_eq_some_iff.1 hj').1
              obtain ⟨bj, hbj⟩ : ∃ bj, out1[j']? = some bj := ⟨out1[j']'(by omega), List.getElem?_eq_getElem _⟩
              repeat' (first | (refine IsO ?_; first | refine JO_nil ?_ | (refine IsG ?_; refine G1 rfl rfl ?_) | (refine IsMove ?_; first | refine M1 rfl rfl rfl ?_ | refine M2 rfl rfl rfl ?_) | (refine IsBin ?_; first | refine B1 rfl rfl rfl rfl ?_ | refine B2 rfl rfl rfl rfl ?_) | (refine IsLoad ?_; first | refine L1 rfl rfl rfl rfl ?_ | refine L2 rfl rfl rfl rfl rfl ?_) | (refine IsBox ?_; refine N1 rfl rfl rfl rfl (fun _ => ?_)) | refine V1 rfl rfl rfl ?_) | (refine IsAt ?_; first | (with_reducible first | refine T1 ?_ | refine T3 ?_ | refine T5 ?_ | refine T6 ?_) | ((with_reducible show At _ (PBlock _ _ (Exit.exit _)) _ _); refine At_block_hit ?_)) | (refine IsJ ?_; first | refine J_seq ?_ | refine J_region ?_ | refine J_block ?_ | refine J_skip ?_ | refine J_ret ?_ | refine J_exit ?_ | (refine IsCond ?_; first | refine J_cond_t rfl ?_ | refine J_cond_f rfl ?_ | refine K1 rfl ?_ | refine J_cb rfl (fun _ => ?_) (fun _ => ?_))))
              rw [show (o'.i : Int) + 1 - 1 = (o'.i : Int) by omega]
              refine JO_l (OL_call [2, 2] rfl rfl rfl (Find_at hc size (by omega) hj') rfl) rfl rfl ?_
              rintro _ _ ⟨_, ⟨rfl, rfl⟩, rfl⟩
              repeat' (first | (refine IsO ?_; first | refine JO_nil ?_ | (refine IsG ?_; refine G1 rfl rfl ?_) | (refine IsMove ?_; first | refine M1 rfl rfl rfl ?_ | refine M2 rfl rfl rfl ?_) | (refine IsBin ?_; first | refine B1 rfl rfl rfl rfl ?_ | refine B2 rfl rfl rfl rfl ?_) | (refine IsLoad ?_; first | refine L1 rfl rfl rfl rfl ?_ | refine L2 rfl rfl rfl rfl rfl ?_) | (refine IsBox ?_; refine N1 rfl rfl rfl rfl (fun _ => ?_)) | refine V1 rfl rfl rfl ?_) | (refine IsAt ?_; first | (with_reducible first | refine T1 ?_ | refine T3 ?_ | refine T5 ?_ | refine T6 ?_) | ((with_reducible show At _ (PBlock _ _ (Exit.exit _)) _ _); refine At_block_hit ?_)) | (refine IsJ ?_; first | refine J_seq ?_ | refine J_region ?_ | refine J_block ?_ | refine J_skip ?_ | refine J_ret ?_ | refine J_exit ?_ | (refine IsCond ?_; first | refine J_cond_t rfl ?_ | refine J_cond_f rfl ?_ | refine K1 rfl ?_ | refine J_cb rfl (fun _ => ?_) (fun _ => ?_))))
              refine JO_val (OV_idx (off := 0 + j') rfl rfl rfl rfl (by omega) (by omega) (by simp)) rfl rfl ?_
              rw [Nat.zero_add]
              refine JO_q (OQ_load (v := .bool bj) rfl rfl (.tail _ (.tail _ (.head _))) (by simp [hbj])) rfl rfl ?_
              have hhit : ∀ out2 : List Bool, out2[j']? = some true → HitI os out2 ((o'.i : Int) + 1) := fun out2 h2 => .inr fun j2 o2 hj2 he => by
                have := Ch.one hc hj2 hj' (by omega)
                subst this
                exact h2
              cases bj with
              | true =>
                repeat' (first | (refine IsO ?_; first | refine JO_nil ?_ | (refine IsG ?_; refine G1 rfl rfl ?_) | (refine IsMove ?_; first | refine M1 rfl rfl rfl ?_ | refine M2 rfl rfl rfl ?_) | (refine IsBin ?_; first | refine B1 rfl rfl rfl rfl ?_ | refine B2 rfl rfl rfl rfl ?_) | (refine IsLoad ?_; first | refine L1 rfl rfl rfl rfl ?_ | refine L2 rfl rfl rfl rfl rfl ?_) | (refine IsBox ?_; refine N1 rfl rfl rfl rfl (fun _ => ?_)) | refine V1 rfl rfl rfl ?_) | (refine IsAt ?_; first | (with_reducible first | refine T1 ?_ | refine T3 ?_ | refine T5 ?_ | refine T6 ?_) | ((with_reducible show At _ (PBlock _ _ (Exit.exit _)) _ _); refine At_block_hit ?_)) | (refine IsJ ?_; first | refine J_seq ?_ | refine J_region ?_ | refine J_block ?_ | refine J_skip ?_ | refine J_ret ?_ | refine J_exit ?_ | (refine IsCond ?_; first | refine J_cond_t rfl ?_ | refine J_cond_f rfl ?_ | refine K1 rfl ?_ | refine J_cb rfl (fun _ => ?_) (fun _ => ?_))))
                exact At_round (k + 1, out1, more) (by show m - (k + 1) < m - k; omega) ⟨by show k + 1 ≤ m; omega, hI1, hu1, hc1, hm1, fun e => ⟨(hcl1 e).1, hclos out1 (fun _ _ => hhit out1 hbj) (fun _ h => h) fun k' y hk' hkp hy => (hcl1 e).2 hbi o k' y ho hk' hkp hy⟩⟩ (by repeat (first | exact True.intro | refine And.intro rfl ?_)) (fun H hl => hl.pick (is := [2, 2, 0, 0, 0]) rfl)
              | false =>
                repeat' (first | (refine IsO ?_; first | refine JO_nil ?_ | (refine IsG ?_; refine G1 rfl rfl ?_) | (refine IsMove ?_; first | refine M1 rfl rfl rfl ?_ | refine M2 rfl rfl rfl ?_) | (refine IsBin ?_; first | refine B1 rfl rfl rfl rfl ?_ | refine B2 rfl rfl rfl rfl ?_) | (refine IsLoad ?_; first | refine L1 rfl rfl rfl rfl ?_ | refine L2 rfl rfl rfl rfl rfl ?_) | (refine IsBox ?_; refine N1 rfl rfl rfl rfl (fun _ => ?_)) | refine V1 rfl rfl rfl ?_) | (refine IsAt ?_; first | (with_reducible first | refine T1 ?_ | refine T3 ?_ | refine T5 ?_ | refine T6 ?_) | ((with_reducible show At _ (PBlock _ _ (Exit.exit _)) _ _); refine At_block_hit ?_)) | (refine IsJ ?_; first | refine J_seq ?_ | refine J_region ?_ | refine J_block ?_ | refine J_skip ?_ | refine J_ret ?_ | refine J_exit ?_ | (refine IsCond ?_; first | refine J_cond_t rfl ?_ | refine J_cond_f rfl ?_ | refine K1 rfl ?_ | refine J_cb rfl (fun _ => ?_) (fun _ => ?_))))
                rw [show (o'.i : Int) + 1 - 1 = (o'.i : Int) by omega]
                refine JO_l (OL_call [0, 0] rfl rfl rfl (Find_at hc size (by omega) hj') rfl) rfl rfl ?_
                rintro _ _ ⟨_, ⟨rfl, rfl⟩, rfl⟩
                refine JO_val (OV_idx (off := 0 + j') rfl rfl rfl rfl (by omega) (by omega) (by simp)) rfl rfl ?_
                rw [Nat.zero_add]
                refine JO_l0 (OL_store (i := 2) rfl rfl rfl rfl rfl rfl rfl (putL_bools true (by omega))) rfl ?_
                rintro _ _ rfl
                repeat' (first | (refine IsO ?_; first | refine JO_nil ?_ | (refine IsG ?_; refine G1 rfl rfl ?_) | (refine IsMove ?_; first | refine M1 rfl rfl rfl ?_ | refine M2 rfl rfl rfl ?_) | (refine IsBin ?_; first | refine B1 rfl rfl rfl rfl ?_ | refine B2 rfl rfl rfl rfl ?_) | (refine IsLoad ?_; first | refine L1 rfl rfl rfl rfl ?_ | refine L2 rfl rfl rfl rfl rfl ?_) | (refine IsBox ?_; refine N1 rfl rfl rfl rfl (fun _ => ?_)) | refine V1 rfl rfl rfl ?_) | (refine IsAt ?_; first | (with_reducible first | refine T1 ?_ | refine T3 ?_ | refine T5 ?_ | refine T6 ?_) | ((with_reducible show At _ (PBlock _ _ (Exit.exit _)) _ _); refine At_block_hit ?_)) | (refine IsJ ?_; first | refine J_seq ?_ | refine J_region ?_ | refine J_block ?_ | refine J_skip ?_ | refine J_ret ?_ | refine J_exit ?_ | (refine IsCond ?_; first | refine J_cond_t rfl ?_ | refine J_cond_f rfl ?_ | refine K1 rfl ?_ | refine J_cb rfl (fun _ => ?_) (fun _ => ?_))))
                have hcs := cfB_set hbj
                exact At_round (k + 1, out1.set j' true, true) (by show m - (k + 1) < m - k; omega) ⟨by show k + 1 ≤ m; omega, RcI.set (ws := ws) (T := T) hI1 (.ref (hI1.snd i hbi) ho hlt2 hx hj' rfl), fun j h => upB_set j (hu1 j h), by show cfB (out1.set j' true) ≤ _; omega, fun _ => by show cfB (out1.set j' true) < _; omega, fun e => by cases e⟩ (by repeat (first | exact True.intro | refine And.intro rfl ?_)) (fun H hl => hl.pick (is := [0, 2, 0, 0, 0]) rfl)
          · have hkm : k = m := by omega
            refine At_round (i + 1, out1, more) (by show os.length - (i + 1) < os.length - i; omega) ⟨by show i + 1 ≤ os.length; omega, hI1, hu1, hc1, hm1, fun e i' hi' k' => ?_⟩ (by repeat (first | exact True.intro | refine And.intro rfl ?_)) (fun H hl => hl)
            by_cases e2 : i' = i
            · subst e2
              intro ht o' k'' y ho' hk'' hkp hy
              rw [ho] at ho'; injection ho' with ho'; subst ho'
              exact (hcl1 e).2 ht o k'' y ho (by omega) hkp hy
            · exact (hcl1 e).1 i' (by dsimp only at hi'; omega) k'
      · have hie : i = os.length := by omega
        subst hie
        cases more with
        | true => exact At_round (out1, true) (by have := hm1 rfl; show cfB out1 + 1 < cfB out + 1; omega) ⟨hI1, fun z hz => (hroot z hz).up hu1, fun e => by cases e⟩ (by repeat (first | exact True.intro | refine And.intro rfl ?_)) (fun H hl => hl)
        | false => exact At_round (out1, false) (by show 0 < cfB out + 1; omega) ⟨hI1, fun z hz => (hroot z hz).up hu1, fun _ => hcl1 rfl⟩ (by repeat (first | exact True.intro | refine And.intro rfl ?_)) (fun H hl => hl)
end ops
end Go.Proofs.Ytahfnbpbdnmggaa
/-
  Our own: where a graph's nodes lie: at objects that are no fillers.
-/
set_option linter.unusedVariables false
set_option linter.unusedSimpArgs false
namespace Go.Proofs.Ytahfnbpbdnmggaa
open Go.Sep
def hsum (hs : List (Int × Nat × Int)) : Nat := (hs.map fun h => 1 + h.2.1).sum
theorem hsum_app {a b : List (Int × Nat × Int)} : hsum (a ++ b) = hsum a + hsum b := by unfold hsum; rw [List.map_append, List.sum_append]
def LGok (s : LG) : Prop := s.T = hsum s.hs ∧ ∀ q ∈ s.at_, ∃ (j : Nat) (h : Int × Nat × Int), s.hs[j]? = some h ∧ h.1 ≠ 15 ∧ q = (hsum (s.hs.take j) : Int)
theorem LGok.snoc {i : Nat} {s : LG} (h : LGok s) (x : Int × Nat × Int) : LGok ⟨i, s.T + 1 + x.2.1, s.at_, s.hs ++ [x]⟩ := by
  refine ⟨?_, fun q hq => ?_⟩
  · show s.T + 1 + x.2.1 = hsum (s.hs ++ [x])
    rw [hsum_app, h.1]
    show _ = hsum s.hs + (1 + x.2.1 + 0)
    omega
  · obtain ⟨j, y, h1, h2, h3⟩ := h.2 q hq
    have hl := (List.getElem?_eq_some_iff.1 h1).1
    refine ⟨j, y, ?_, h2, ?_⟩
    · show (s.hs ++ [x])[j]? = _
      rw [List.getElem?_append_left hl]; exact h1
    · show q = (hsum ((s.hs ++ [x]).take j) : Int)
      rw [List.take_append_of_le_length (by omega)]; exact h3
theorem LGok.step {s : LG} (h : LGok s) (y : ND) : LGok (stepG s y) := by
  have hf : LGok (fillG s y) := by
    unfold fillG
    split
    · exact h.snoc (15, (y.k % 2).toNat, 0)
    · exact h
  generalize hs1 : fillG s y = s1 at hf
  unfold stepG
  rw [show fillG s y = s1 from hs1]
  unfold nodeG
  have h1 := hf.snoc (i := s1.i + 1) (y.k % 15, lenG y, (y.es.length : Int))
  refine ⟨h1.1, fun q hq => ?_⟩
  dsimp only at hq
  rcases List.mem_append.1 hq with hq | hq
  · exact h1.2 q hq
  · rw [List.mem_singleton.1 hq]
    refine ⟨s1.hs.length, (y.k % 15, lenG y, (y.es.length : Int)), ?_, ?_, ?_⟩
    · show (s1.hs ++ [_])[s1.hs.length]? = _
      rw [List.getElem?_append_right (Nat.le_refl _), Nat.sub_self]; rfl
    · show y.k % 15 ≠ 15
      have := Int.emod_lt_of_pos y.k (show (0 : Int) < 15 by decide)
      omega
    · show (s1.T : Int) = (hsum ((s1.hs ++ [_]).take s1.hs.length) : Int)
      rw [List.take_append_of_le_length (Nat.le_refl _), List.take_length, ← hf.1]
theorem layG_ok (ns : List ND) : LGok (layG ns) := by
  unfold layG
  have h0 : LGok ⟨0, 0, [], []⟩ := ⟨rfl, fun q hq => by cases hq⟩
  generalize (⟨0, 0, [], []⟩ : LG) = s at h0
  induction ns generalizing s with
  | nil => exact h0
  | cons y r ih => exact ih _ (h0.step y)
theorem Ch.hsum {ws : List Int} : ∀ {os : List RO} {i T j : Nat} {o : RO}, Ch ws i os T → os[j]? = some o → o.i = i + Go.Proofs.Ytahfnbpbdnmggaa.hsum ((os.map hdO).take j)
  | [], _, _, _, _, _, hj => by cases hj
  | x :: r, i, T, 0, o, h, hj => by
    injection hj with hj; subst hj
    exact h.1
  | x :: r, i, T, j + 1, o, h, hj => by
    have h1 := Ch.hsum h.2.2.2.2 (j := j) hj
    rw [h1, List.map_cons, List.take_succ_cons]
    show _ = i + (1 + x.ws.length + (((r.map hdO).take j).map fun h => 1 + h.2.1).sum)
    unfold Go.Proofs.Ytahfnbpbdnmggaa.hsum
    omega
/-- A node's place is an object's. -/
theorem BInv.nodes {n T : Nat} {ws : List Int} {st : List Bool} {os : List RO} {ns : List ND} (h : BInv n T ws st os (layG ns).hs) {q : Int} (hq : q ∈ (layG ns).at_) : ∃ (j : Nat) (o : RO), os[j]? = some o ∧ (o.i : Int) = q ∧ o.k ≠ 15 := by
  obtain ⟨j, y, h1, h2, h3⟩ := (layG_ok ns).2 q hq
  rw [← h.hd] at h1 h3
  rw [List.getElem?_map] at h1
  cases ho : os[j]? with
  | none => rw [ho] at h1; cases h1
  | some o =>
    rw [ho] at h1
    injection h1 with h1
    refine ⟨j, o, ho, ?_, ?_⟩
    · rw [h3, h.ch.hsum ho, Nat.zero_add]
    · have : y.1 = o.k := by rw [← h1]
      rw [← this]; exact h2
/-- A root is nought, or leads to an object. -/
theorem BInv.root {n T : Nat} {ws : List Int} {st : List Bool} {os : List RO} {ns : List ND} (h : BInv n T ws st os (layG ns).hs) (z : Int) : plcI (layG ns).at_ z = 0 ∨ ∃ (j : Nat) (o : RO), os[j]? = some o ∧ plcI (layG ns).at_ z = (o.i : Int) + 1 ∧ o.k ≠ 15 := by
  unfold plcI
  split
  · exact .inl rfl
  · rename_i hne
    have m0 : 0 ≤ z % (((layG ns).at_.length : Int) + 1) := Int.emod_nonneg _ (by omega)
    have m1 : z % (((layG ns).at_.length : Int) + 1) < ((layG ns).at_.length : Int) + 1 := Int.emod_lt_of_pos _ (by omega)
    obtain ⟨k, hk⟩ := Int.eq_ofNat_of_zero_le m0
    rw [hk] at hne m1 ⊢
    have hkl : k < (layG ns).at_.length := by omega
    rw [Int.toNat_natCast, List.getD_eq_getElem?_getD, List.getElem?_eq_getElem hkl]
    obtain ⟨j, o, h1, h2, h3⟩ := h.nodes (List.getElem_mem hkl)
    exact .inr ⟨j, o, h1, by rw [h2]; exact Int.add_comm _ _, h3⟩
end Go.Proofs.Ytahfnbpbdnmggaa
/-
  Our own: besomlaw14.reached: a graph's heap, marks of all that is reached.
-/
set_option linter.unusedVariables false
set_option linter.unusedSimpArgs false
namespace Go.Proofs.Ytahfnbpbdnmggaa
open Go.Sep
/-- References lead to objects that are no fillers. -/
theorem leads_obj {n T : Nat} {ws : List Int} {st : List Bool} {os : List RO} (h : HT n T ws st) (hc : Ch ws 0 os T) (hr : RefsOk ws st) {j k : Nat} {o : RO} {y : Int} (ho : os[j]? = some o) (hk : (k : Int) < o.p) (hy : o.ws[k]? = some y) : y = 0 ∨ ∃ (j' : Nat) (o' : RO), os[j']? = some o' ∧ y = (o'.i : Int) + 1 ∧ o'.k ≠ 15 := by
  have hl := (refs_iff h hc).1 hr o (List.mem_of_getElem? ho) k y hk hy
  have h2 := of_decide_eq_true hl
  rcases h2 with h0 | ⟨h1, hs, h15⟩
  · exact .inl h0
  · right
    have hst : (0 = T ∨ st[0]? = some true) := h.zero.imp Eq.symm id
    obtain ⟨o', ho', he⟩ := Ch.find h hc hst (y - 1).toNat (Nat.zero_le _) hs
    obtain ⟨j', hj'⟩ := List.getElem?_of_mem ho'
    refine ⟨j', o', hj', by omega, ?_⟩
    have hat := (hc.at hj').2
    rw [← he, List.getD_eq_getElem?_getD, hat.2.2.1, Option.getD_some, (packI_un hat.2.1).2.2.1] at h15
    exact h15
theorem rch_live {n T : Nat} {ws : List Int} {st : List Bool} {os : List RO} {rts : List Int} (h : HT n T ws st) (hc : Ch ws 0 os T) (hr : RefsOk ws st) (hrt : ∀ z ∈ rts, z = 0 ∨ ∃ (j : Nat) (o : RO), os[j]? = some o ∧ z = (o.i : Int) + 1 ∧ o.k ≠ 15) {j : Nat} (hj : Rch os rts j) {o : RO} (ho : os[j]? = some o) : o.k ≠ 15 := by
  cases hj with
  | root hz hj he =>
    rw [ho] at hj; injection hj with hj; subst hj
    rcases hrt _ hz with h0 | ⟨j2, o2, hj2, he2, h15⟩
    · omega
    · have := Ch.one hc hj2 ho (by omega)
      subst this
      rw [ho] at hj2; injection hj2 with hj2; rw [hj2]; exact h15
  | ref _ hi hk hy hj he =>
    rw [ho] at hj; injection hj with hj; subst hj
    rcases leads_obj h hc hr hi hk hy with h0 | ⟨j2, o2, hj2, he2, h15⟩
    · omega
    · have := Ch.one hc hj2 ho (by omega)
      subst this
      rw [ho] at hj2; injection hj2 with hj2; rw [hj2]; exact h15
/-- The marks of all that is reached. -/
def RMk (os : List RO) (rts : List Int) (ms : List Nat) : Prop := ∀ (j : Nat) (o : RO), os[j]? = some o → (lvB ms o = true ↔ Rch os rts j)
theorem RMk.right {n T : Nat} {ws : List Int} {st : List Bool} {os : List RO} {rts : List Int} {ms : List Nat} (h : HT n T ws st) (hc : Ch ws 0 os T) (hr : RefsOk ws st) (hm : RMk os rts ms) : RightP ms os := by
  intro j o ho hl k y hk hy
  rcases leads_obj h hc hr ho hk hy with h0 | ⟨j2, o2, hj2, he2, h15⟩
  · exact .inl h0
  · exact .inr ⟨j2, o2, hj2, (hm j2 o2 hj2).2 (.ref ((hm j o ho).1 hl) ho hk hy hj2 he2), by omega⟩
set_option maxHeartbeats 16000000 in
theorem Reached_spec {R : HP} {g : GG} (h : GOk R g) (hf : fewB g = true) : Does Try.prog 19 [gV g] [R]
    (fun v l => ∃ (p bw bs n T : Nat) (ws : List Int) (st : List Bool) (a : Option Addr) (cap : Nat) (os : List RO) (ra : Option Addr) (rc pm bm : Nat) (ms : List Nat) (b : Nat) (rts : List Int), BInv n T ws st os (layG g.ns).hs ∧ n = 4 + needG g.ns ∧ MI n ms ∧ rts = g.rs.map (plcI (layG g.ns).at_) ∧ RMk os rts ms ∧
      (∀ z ∈ rts, z = 0 ∨ ∃ (j : Nat) (o : RO), os[j]? = some o ∧ z = (o.i : Int) + 1 ∧ o.k ≠ 15) ∧
      v = .tuple #[ptr p 0, .slice ra rts.length rc, ptr pm 0, refV n a os.length cap, sl b os.length] ∧ l = heapL p bw bs n ws T st ++ marksL pm bm n ms ++ (refL a cap os ++ [rowz 3 1 ra rts.length rc (intsV rts), blk b (stB ms os) 4, R])) := by
  obtain ⟨hn14, hr14, he10, hnd224⟩ := few_need h hf
  refine Does.of tiok Try.func19 (by kernel_rfl) rfl Try.ntmps19 rfl ?_
  intro W fr
  have hB3 : Does Try.prog 9 [gV g, .int .i64 3] [R] _ := Build_spec h hf 3 (by omega)
  repeat' (first | (refine IsO ?_; first | refine JO_nil ?_ | (refine IsBin ?_; refine B1 rfl rfl rfl rfl ?_) | (refine IsLoad ?_; first | refine L1 rfl rfl rfl rfl ?_ | refine L2 rfl rfl rfl rfl rfl ?_) | (refine IsStore ?_; refine S1 rfl rfl rfl rfl rfl rfl rfl (fun _ => ?_)) | (refine IsBox ?_; refine N1 rfl rfl rfl rfl (fun _ => ?_)) | (refine IsAlloc ?_; refine N2 rfl rfl rfl rfl (fun _ => ?_)) | refine V1 rfl rfl rfl ?_) | (refine IsAt ?_; first | (with_reducible first | refine T1 ?_ | refine T3 ?_ | refine T5 ?_ | refine T6 ?_) | ((with_reducible show At _ (PBlock _ _ (Exit.exit _)) _ _); refine At_block_hit ?_)) | (refine IsJ ?_; first | refine J_seq ?_ | refine J_region ?_ | refine J_block ?_ | refine J_skip ?_ | refine J_ret ?_ | refine J_exit ?_ | (refine IsCond ?_; first | refine J_cond_t rfl ?_ | refine J_cond_f rfl ?_ | refine J_cb rfl (fun _ => ?_) (fun _ => ?_))))
  refine JO_l (OL_call [2] rfl rfl rfl (hB3) rfl) rfl rfl ?_; rintro _ _ ⟨_, ⟨p, bw, bs, n, T, ws, st, a, cap, os, ra, rc, hB, hn, hT, rfl, rfl⟩, rfl⟩
  clear hB3
  have htn := hB.ht.tn
  have hlen := hB.ch.len
  obtain ⟨rts, hrts⟩ : ∃ rts, rts = g.rs.map (plcI (layG g.ns).at_) := ⟨_, rfl⟩
  have hrl : g.rs.length = rts.length := by rw [hrts, List.length_map]
  rw [← hrts, hrl]
  have hroot : ∀ z ∈ rts, z = 0 ∨ ∃ (j : Nat) (o : RO), os[j]? = some o ∧ z = (o.i : Int) + 1 ∧ o.k ≠ 15 := by
    intro z hz
    rw [hrts] at hz
    obtain ⟨y, _, rfl⟩ := List.mem_map.1 hz
    exact hB.root y
  repeat' (first | (refine IsO ?_; first | refine JO_nil ?_ | (refine IsBin ?_; refine B1 rfl rfl rfl rfl ?_) | (refine IsLoad ?_; first | refine L1 rfl rfl rfl rfl ?_ | refine L2 rfl rfl rfl rfl rfl ?_) | (refine IsStore ?_; refine S1 rfl rfl rfl rfl rfl rfl rfl (fun _ => ?_)) | (refine IsBox ?_; refine N1 rfl rfl rfl rfl (fun _ => ?_)) | (refine IsAlloc ?_; refine N2 rfl rfl rfl rfl (fun _ => ?_)) | refine V1 rfl rfl rfl ?_) | (refine IsAt ?_; first | (with_reducible first | refine T1 ?_ | refine T3 ?_ | refine T5 ?_ | refine T6 ?_) | ((with_reducible show At _ (PBlock _ _ (Exit.exit _)) _ _); refine At_block_hit ?_)) | (refine IsJ ?_; first | refine J_seq ?_ | refine J_region ?_ | refine J_block ?_ | refine J_skip ?_ | refine J_ret ?_ | refine J_exit ?_ | (refine IsCond ?_; first | refine J_cond_t rfl ?_ | refine J_cond_f rfl ?_ | refine J_cb rfl (fun _ => ?_) (fun _ => ?_))))
  refine JO_l (OL_call [1, 1, 1] rfl rfl rfl (heapSize) rfl) rfl rfl ?_; rintro _ _ ⟨_, ⟨rfl, rfl⟩, rfl⟩
  have hN : Does Try.prog 10 [.int .i64 n] [] _ := marksNew n (by omega) hB.ht.nb
  refine JO_l (OL_call [] rfl rfl rfl (hN) rfl) rfl rfl ?_; rintro _ _ ⟨_, ⟨pm, bm, rfl, rfl⟩, rfl⟩
  repeat' (first | (refine IsO ?_; first | refine JO_nil ?_ | (refine IsBin ?_; refine B1 rfl rfl rfl rfl ?_) | (refine IsLoad ?_; first | refine L1 rfl rfl rfl rfl ?_ | refine L2 rfl rfl rfl rfl rfl ?_) | (refine IsStore ?_; refine S1 rfl rfl rfl rfl rfl rfl rfl (fun _ => ?_)) | (refine IsBox ?_; refine N1 rfl rfl rfl rfl (fun _ => ?_)) | (refine IsAlloc ?_; refine N2 rfl rfl rfl rfl (fun _ => ?_)) | refine V1 rfl rfl rfl ?_) | (refine IsAt ?_; first | (with_reducible first | refine T1 ?_ | refine T3 ?_ | refine T5 ?_ | refine T6 ?_) | ((with_reducible show At _ (PBlock _ _ (Exit.exit _)) _ _); refine At_block_hit ?_)) | (refine IsJ ?_; first | refine J_seq ?_ | refine J_region ?_ | refine J_block ?_ | refine J_skip ?_ | refine J_ret ?_ | refine J_exit ?_ | (refine IsCond ?_; first | refine J_cond_t rfl ?_ | refine J_cond_f rfl ?_ | refine J_cb rfl (fun _ => ?_) (fun _ => ?_))))
  rename_i b3 b5 b9 _
  refine JO_fact _ (fun w hs => rowz_len (T := 3) (sz := 1) (m := rts.length) (cap := rc) (a := ra) (cs := intsV rts) hs (by simp)) ?_
  rintro ⟨hl, hnn, hcc⟩
  have hRo : Reads (rowz 3 1 ra rts.length rc (intsV rts)) 1 rts.length ra rc (intsV rts) := Reads.rowz hl hnn
  have hld := LeadP.of hB.ht hB.ch hB.ro
  refine JO_l (OL_call [6, 6, 6] rfl rfl rfl (Reach_spec (n : Int) hB.ht hB.ch hld (fun z hz => (hroot z hz).imp id fun ⟨j, o, h1, h2, _⟩ => ⟨j, o, h1, h2⟩) hRo (by omega)) rfl) rfl rfl ?_
  rintro _ _ ⟨_, ⟨out, b, hol, hrch, rfl, rfl⟩, rfl⟩
  repeat' (first | (refine IsO ?_; first | refine JO_nil ?_ | (refine IsBin ?_; refine B1 rfl rfl rfl rfl ?_) | (refine IsLoad ?_; first | refine L1 rfl rfl rfl rfl ?_ | refine L2 rfl rfl rfl rfl rfl ?_) | (refine IsStore ?_; refine S1 rfl rfl rfl rfl rfl rfl rfl (fun _ => ?_)) | (refine IsBox ?_; refine N1 rfl rfl rfl rfl (fun _ => ?_)) | (refine IsAlloc ?_; refine N2 rfl rfl rfl rfl (fun _ => ?_)) | refine V1 rfl rfl rfl ?_) | (refine IsAt ?_; first | (with_reducible first | refine T1 ?_ | refine T3 ?_ | refine T5 ?_ | refine T6 ?_) | ((with_reducible show At _ (PBlock _ _ (Exit.exit _)) _ _); refine At_block_hit ?_)) | (refine IsJ ?_; first | refine J_seq ?_ | refine J_region ?_ | refine J_block ?_ | refine J_skip ?_ | refine J_ret ?_ | refine J_exit ?_ | (refine IsCond ?_; first | refine J_cond_t rfl ?_ | refine J_cond_f rfl ?_ | refine J_cb rfl (fun _ => ?_) (fun _ => ?_))))
  have hM0 : MI n (List.replicate ((n + 63) / 64) 0) := MI.new hB.ht.nb
  refine J_loop (α := Nat × List Nat) (fun x => x.1 ≤ os.length ∧ MI n x.2 ∧ ∀ (j : Nat) (o : RO), os[j]? = some o → (bitB x.2 o.i = true ↔ j < x.1 ∧ out[j]? = some true))
    (fun x => [(5, ptr b5 0), (7, ptr p 0), (8, .slice ra rts.length rc), (9, ptr b9 0), (10, ptr pm 0), (12, sl b os.length), (31, .slice a os.length cap), (32, .int .i64 os.length), (33, .int .i64 x.1)])
    (fun x => marksL pm bm n x.2 ++ (blk b (boolsV out) 4 :: (heapL p bw bs n ws T st ++ (refL a cap os ++ [rowz 3 1 ra rts.length rc (intsV rts), blk b9 [.int .i64 n, .slice a os.length cap] 33, blk b5 [.int .i64 0, .slice none 0 0] 33, R]))))
    (fun x => os.length - x.1) (0, List.replicate ((n + 63) / 64) 0) ⟨Nat.zero_le _, hM0, fun j o _ => by rw [bitB_zero]; simp⟩ (by repeat (first | exact True.intro | refine And.intro rfl ?_)) (fun H hl => hl.pick (is := [4, 4, 0, 3, 3, 3, 0, 0, 0, 0, 1, 0]) rfl) ?_
  rintro ⟨q, ms⟩ ⟨hq, hM, hI⟩
  dsimp only at hq hM hI ⊢
  repeat' (first | (refine IsO ?_; first | refine JO_nil ?_ | (refine IsBin ?_; refine B1 rfl rfl rfl rfl ?_) | (refine IsLoad ?_; first | refine L1 rfl rfl rfl rfl ?_ | refine L2 rfl rfl rfl rfl rfl ?_) | (refine IsStore ?_; refine S1 rfl rfl rfl rfl rfl rfl rfl (fun _ => ?_)) | (refine IsBox ?_; refine N1 rfl rfl rfl rfl (fun _ => ?_)) | (refine IsAlloc ?_; refine N2 rfl rfl rfl rfl (fun _ => ?_)) | refine V1 rfl rfl rfl ?_) | (refine IsAt ?_; first | (with_reducible first | refine T1 ?_ | refine T3 ?_ | refine T5 ?_ | refine T6 ?_) | ((with_reducible show At _ (PBlock _ _ (Exit.exit _)) _ _); refine At_block_hit ?_)) | (refine IsJ ?_; first | refine J_seq ?_ | refine J_region ?_ | refine J_skip ?_ | refine J_ret ?_ | refine J_exit ?_ | (refine IsCond ?_; first | refine J_cond_t rfl ?_ | refine J_cond_f rfl ?_ | refine J_cb rfl (fun _ => ?_) (fun _ => ?_))))
  · rename_i hlt
    refine J_block ?_
    obtain ⟨o, ho⟩ : ∃ o, os[q]? = some o := ⟨os[q]'(by omega), List.getElem?_eq_getElem _⟩
    obtain ⟨bq, hbq⟩ : ∃ bq, out[q]? = some bq := ⟨out[q]'(by omega), List.getElem?_eq_getElem _⟩
    have hot := hB.ch.o_lt ho
    refine J_rowzf (i := 6) rfl ?_
    rintro ⟨hl2, hn2, hc2⟩
    have hR : Reads (objsZ a cap os) 5 os.length a cap (os.flatMap cellsO) := Reads.rowz hl2 hn2
    refine J_fact _ (fun w hs => hR.some (by omega) hs (by simp)) ?_
    rintro ⟨b2, of, rfl⟩
    repeat' (first | (refine IsO ?_; first | refine JO_nil ?_ | (refine IsBin ?_; refine B1 rfl rfl rfl rfl ?_) | (refine IsLoad ?_; first | refine L1 rfl rfl rfl rfl ?_ | refine L2 rfl rfl rfl rfl rfl ?_) | (refine IsStore ?_; refine S1 rfl rfl rfl rfl rfl rfl rfl (fun _ => ?_)) | (refine IsBox ?_; refine N1 rfl rfl rfl rfl (fun _ => ?_)) | (refine IsAlloc ?_; refine N2 rfl rfl rfl rfl (fun _ => ?_)) | refine V1 rfl rfl rfl ?_) | (refine IsAt ?_; first | (with_reducible first | refine T1 ?_ | refine T3 ?_ | refine T5 ?_ | refine T6 ?_) | ((with_reducible show At _ (PBlock _ _ (Exit.exit _)) _ _); refine At_block_hit ?_)) | (refine IsJ ?_; first | refine J_seq ?_ | refine J_region ?_ | refine J_block ?_ | refine J_skip ?_ | refine J_ret ?_ | refine J_exit ?_ | (refine IsCond ?_; first | refine J_cond_t rfl ?_ | refine J_cond_f rfl ?_ | refine J_cb rfl (fun _ => ?_) (fun _ => ?_))))
    refine JO_val (OV_idx (off := of + q * 5) rfl rfl rfl rfl (by omega) (by omega) (by simp)) rfl rfl ?_
    refine JO_q (OQ_readA hR (by simp) rfl rfl rfl (by omega) (objs_take ho)) rfl rfl ?_
    repeat' (first | (refine IsO ?_; first | refine JO_nil ?_ | (refine IsBin ?_; refine B1 rfl rfl rfl rfl ?_) | (refine IsLoad ?_; first | refine L1 rfl rfl rfl rfl ?_ | refine L2 rfl rfl rfl rfl rfl ?_) | (refine IsStore ?_; refine S1 rfl rfl rfl rfl rfl rfl rfl (fun _ => ?_)) | (refine IsBox ?_; refine N1 rfl rfl rfl rfl (fun _ => ?_)) | (refine IsAlloc ?_; refine N2 rfl rfl rfl rfl (fun _ => ?_)) | refine V1 rfl rfl rfl ?_) | (refine IsAt ?_; first | (with_reducible first | refine T1 ?_ | refine T3 ?_ | refine T5 ?_ | refine T6 ?_) | ((with_reducible show At _ (PBlock _ _ (Exit.exit _)) _ _); refine At_block_hit ?_)) | (refine IsJ ?_; first | refine J_seq ?_ | refine J_region ?_ | refine J_block ?_ | refine J_skip ?_ | refine J_ret ?_ | refine J_exit ?_ | (refine IsCond ?_; first | refine J_cond_t rfl ?_ | refine J_cond_f rfl ?_ | refine J_cb rfl (fun _ => ?_) (fun _ => ?_))))
    refine JO_val (OV_idx (off := 0 + q) rfl rfl rfl rfl (by omega) (by omega) (by simp)) rfl rfl ?_
    rw [Nat.zero_add]
    refine JO_q (OQ_load (v := .bool bq) rfl rfl (by repeat (first | exact .head _ | refine .tail _ ?_)) (by simp [hbq])) rfl rfl ?_
    cases bq with
    | true =>
      repeat' (first | (refine IsO ?_; first | refine JO_nil ?_ | (refine IsBin ?_; refine B1 rfl rfl rfl rfl ?_) | (refine IsLoad ?_; first | refine L1 rfl rfl rfl rfl ?_ | refine L2 rfl rfl rfl rfl rfl ?_) | (refine IsStore ?_; refine S1 rfl rfl rfl rfl rfl rfl rfl (fun _ => ?_)) | (refine IsBox ?_; refine N1 rfl rfl rfl rfl (fun _ => ?_)) | (refine IsAlloc ?_; refine N2 rfl rfl rfl rfl (fun _ => ?_)) | refine V1 rfl rfl rfl ?_) | (refine IsAt ?_; first | (with_reducible first | refine T1 ?_ | refine T3 ?_ | refine T5 ?_ | refine T6 ?_) | ((with_reducible show At _ (PBlock _ _ (Exit.exit _)) _ _); refine At_block_hit ?_)) | (refine IsJ ?_; first | refine J_seq ?_ | refine J_region ?_ | refine J_block ?_ | refine J_skip ?_ | refine J_ret ?_ | refine J_exit ?_ | (refine IsCond ?_; first | refine J_cond_t rfl ?_ | refine J_cond_f rfl ?_ | refine J_cb rfl (fun _ => ?_) (fun _ => ?_))))
      refine JO_l (OL_call [1, 1] rfl rfl rfl (Set_in o.i hM (by omega)) rfl) rfl rfl ?_
      rintro _ _ ⟨_, ⟨rfl, rfl⟩, rfl⟩
      repeat' (first | (refine IsO ?_; first | refine JO_nil ?_ | (refine IsBin ?_; refine B1 rfl rfl rfl rfl ?_) | (refine IsLoad ?_; first | refine L1 rfl rfl rfl rfl ?_ | refine L2 rfl rfl rfl rfl rfl ?_) | (refine IsStore ?_; refine S1 rfl rfl rfl rfl rfl rfl rfl (fun _ => ?_)) | (refine IsBox ?_; refine N1 rfl rfl rfl rfl (fun _ => ?_)) | (refine IsAlloc ?_; refine N2 rfl rfl rfl rfl (fun _ => ?_)) | refine V1 rfl rfl rfl ?_) | (refine IsAt ?_; first | (with_reducible first | refine T1 ?_ | refine T3 ?_ | refine T5 ?_ | refine T6 ?_) | ((with_reducible show At _ (PBlock _ _ (Exit.exit _)) _ _); refine At_block_hit ?_)) | (refine IsJ ?_; first | refine J_seq ?_ | refine J_region ?_ | refine J_block ?_ | refine J_skip ?_ | refine J_ret ?_ | refine J_exit ?_ | (refine IsCond ?_; first | refine J_cond_t rfl ?_ | refine J_cond_f rfl ?_ | refine J_cb rfl (fun _ => ?_) (fun _ => ?_))))
      refine At_round (q + 1, setM ms o.i) (by show os.length - (q + 1) < os.length - q; omega) ⟨by show q + 1 ≤ os.length; omega, hM.set (by omega), fun j o2 hj => ?_⟩ (by repeat (first | exact True.intro | refine And.intro rfl ?_)) (fun H hl => ?_)
      · dsimp only
        rw [bitB_set hM (by omega), Bool.or_eq_true, decide_eq_true_iff, hI j o2 hj]
        constructor
        · rintro (⟨h1, h2⟩ | h1)
          · exact ⟨by omega, h2⟩
          · have := Ch.one hB.ch hj ho h1
            subst this
            exact ⟨by omega, hbq⟩
        · rintro ⟨h1, h2⟩
          by_cases e : j = q
          · subst e
            rw [ho] at hj; injection hj with hj; right; rw [hj]
          · exact .inl ⟨by omega, h2⟩
      · exact hl.pick (is := [0, 0, 1, 1, 1, 1, 1, 1, 1, 1, 1, 1]) rfl
    | false =>
      repeat' (first | (refine IsO ?_; first | refine JO_nil ?_ | (refine IsBin ?_; refine B1 rfl rfl rfl rfl ?_) | (refine IsLoad ?_; first | refine L1 rfl rfl rfl rfl ?_ | refine L2 rfl rfl rfl rfl rfl ?_) | (refine IsStore ?_; refine S1 rfl rfl rfl rfl rfl rfl rfl (fun _ => ?_)) | (refine IsBox ?_; refine N1 rfl rfl rfl rfl (fun _ => ?_)) | (refine IsAlloc ?_; refine N2 rfl rfl rfl rfl (fun _ => ?_)) | refine V1 rfl rfl rfl ?_) | (refine IsAt ?_; first | (with_reducible first | refine T1 ?_ | refine T3 ?_ | refine T5 ?_ | refine T6 ?_) | ((with_reducible show At _ (PBlock _ _ (Exit.exit _)) _ _); refine At_block_hit ?_)) | (refine IsJ ?_; first | refine J_seq ?_ | refine J_region ?_ | refine J_block ?_ | refine J_skip ?_ | refine J_ret ?_ | refine J_exit ?_ | (refine IsCond ?_; first | refine J_cond_t rfl ?_ | refine J_cond_f rfl ?_ | refine J_cb rfl (fun _ => ?_) (fun _ => ?_))))
      refine At_round (q + 1, ms) (by show os.length - (q + 1) < os.length - q; omega) ⟨by show q + 1 ≤ os.length; omega, hM, fun j o2 hj => ?_⟩ (by repeat (first | exact True.intro | refine And.intro rfl ?_)) (fun H hl => ?_)
      · rw [hI j o2 hj]
        constructor
        · exact fun ⟨h1, h2⟩ => ⟨by show j < q + 1; omega, h2⟩
        · rintro ⟨h1, h2⟩
          refine ⟨?_, h2⟩
          by_cases e : j = q
          · subst e; rw [hbq] at h2; simp at h2
          · have h1 : j < q + 1 := h1
            omega
      · exact hl.tail
  · have hqe : q = os.length := by omega
    subst hqe
    have hRM : RMk os rts ms := fun j o hj => by
      rw [← hrch j]
      unfold lvB
      rw [Bool.and_eq_true, decide_eq_true_iff, hI j o hj]
      have hjl := (List.getElem?_eq_some_iff.1 hj).1
      exact ⟨fun ⟨_, _, h3⟩ => h3, fun h3 => ⟨rch_live hB.ht hB.ch hB.ro hroot ((hrch j).1 h3) hj, hjl, h3⟩⟩
    have hbo : boolsV out = stB ms os := by
      apply List.ext_getElem?
      intro j
      rw [List.getElem?_map, List.getElem?_map]
      cases hj : os[j]? with
      | none =>
        rw [List.getElem?_eq_none_iff] at hj
        rw [List.getElem?_eq_none (by omega)]; rfl
      | some o =>
        have hjl := (List.getElem?_eq_some_iff.1 hj).1
        rw [List.getElem?_eq_getElem (by omega)]
        show some (Value.bool _) = some (Value.bool (lvB ms o))
        congr 2
        have h1 := hRM j o hj
        rw [← hrch j, List.getElem?_eq_getElem (by omega)] at h1
        have h2 : (lvB ms o = true ↔ out[j]'(by omega) = true) := h1.trans ⟨fun e => by injection e, fun e => by rw [e]⟩
        exact (Bool.eq_iff_iff.2 h2).symm
    rw [hbo]
    repeat' (first | (refine IsO ?_; first | refine JO_nil ?_ | (refine IsBin ?_; refine B1 rfl rfl rfl rfl ?_) | (refine IsLoad ?_; first | refine L1 rfl rfl rfl rfl ?_ | refine L2 rfl rfl rfl rfl rfl ?_) | (refine IsStore ?_; refine S1 rfl rfl rfl rfl rfl rfl rfl (fun _ => ?_)) | (refine IsBox ?_; refine N1 rfl rfl rfl rfl (fun _ => ?_)) | (refine IsAlloc ?_; refine N2 rfl rfl rfl rfl (fun _ => ?_)) | refine V1 rfl rfl rfl ?_) | (refine IsAt ?_; first | (with_reducible first | refine T1 ?_ | refine T3 ?_ | refine T5 ?_ | refine T6 ?_) | ((with_reducible show At _ (PBlock _ _ (Exit.exit _)) _ _); refine At_block_hit ?_)) | (refine IsJ ?_; first | refine J_seq ?_ | refine J_region ?_ | refine J_block ?_ | refine J_skip ?_ | refine J_ret ?_ | refine J_exit ?_ | (refine IsCond ?_; first | refine J_cond_t rfl ?_ | refine J_cond_f rfl ?_ | refine J_cb rfl (fun _ => ?_) (fun _ => ?_))))
    refine J_draw [0, 0, 0, 1, 0, 0, 0, 0, 2, 0] (List.range 10) (by kernel_rfl) (by kernel_rfl) ?_
    repeat' (refine IsX ?_; first | (refine JX_nil ?_; refine At_np ?_) | (refine JX_op rfl ?_; refine XsO ?_; first | (refine XsLoad ?_; refine XL2 rfl rfl rfl rfl rfl rfl ?_) | refine XV1 rfl rfl rfl rfl ?_))
    refine JX_l0 rfl rfl (OL_store (i := 10) rfl rfl rfl rfl rfl rfl rfl (by rfl)) rfl ?_
    rintro _ _ rfl
    repeat' (refine IsX ?_; first | (refine JX_nil ?_; refine At_np ?_) | (refine JX_op rfl ?_; refine XsO ?_; first | (refine XsLoad ?_; refine XL2 rfl rfl rfl rfl rfl rfl ?_) | refine XV1 rfl rfl rfl rfl ?_))
    repeat' (first | (refine IsO ?_; first | refine JO_nil ?_ | (refine IsBin ?_; refine B1 rfl rfl rfl rfl ?_) | (refine IsLoad ?_; first | refine L1 rfl rfl rfl rfl ?_ | refine L2 rfl rfl rfl rfl rfl ?_) | (refine IsStore ?_; refine S1 rfl rfl rfl rfl rfl rfl rfl (fun _ => ?_)) | (refine IsBox ?_; refine N1 rfl rfl rfl rfl (fun _ => ?_)) | (refine IsAlloc ?_; refine N2 rfl rfl rfl rfl (fun _ => ?_)) | refine V1 rfl rfl rfl ?_) | (refine IsAt ?_; first | (with_reducible first | refine T1 ?_ | refine T3 ?_ | refine T5 ?_ | refine T6 ?_) | ((with_reducible show At _ (PBlock _ _ (Exit.exit _)) _ _); refine At_block_hit ?_)) | (refine IsJ ?_; first | refine J_seq ?_ | refine J_region ?_ | refine J_block ?_ | refine J_skip ?_ | refine J_ret ?_ | refine J_exit ?_ | (refine IsCond ?_; first | refine J_cond_t rfl ?_ | refine J_cond_f rfl ?_ | refine J_cb rfl (fun _ => ?_) (fun _ => ?_))))
    exact At_ret rfl rfl (.tmp rfl (.tmp rfl (.tmp rfl (.agg rfl rfl rfl (by repeat (first | exact .head _ | refine .tail _ ?_)) (by rfl) (.tmp rfl .nil))))) rfl (is := [4, 4, 4, 1, 1, 2, 2, 2, 1, 2]) rfl ⟨p, bw, bs, n, T, ws, st, a, cap, os, ra, rc, pm, bm, ms, b, rts, hB, by omega, hM, rfl, hRM, hroot, rfl, rfl⟩
end Go.Proofs.Ytahfnbpbdnmggaa
/-
  Our own: besomlaw14.awake.
-/
set_option linter.unusedVariables false
set_option linter.unusedSimpArgs false
namespace Go.Proofs.Ytahfnbpbdnmggaa
open Go.Sep
set_option maxHeartbeats 4000000 in
theorem awake14_spec : Does Try.prog 7 [] [] (fun v l => v = .bool true ∧ l = []) := by
  refine Does.of tiok Try.func7 (by kernel_rfl) rfl Try.ntmps7 rfl ?_
  intro W fr
  have hN : Does Try.prog 30 [.int .i64 3] [] _ := heapNew_ok 3 (by decide) (by decide)
  have hK : Does Try.prog 10 [.int .i64 3] [] _ := marksNew 3 (by decide) (by decide)
  repeat' (first | (refine IsO ?_; first | refine JO_nil ?_ | (refine IsMove ?_; first | refine M1 rfl rfl rfl ?_ | refine M4 rfl rfl rfl ?_) | (refine IsBin ?_; first | refine B9 rfl rfl rfl rfl rfl rfl rfl ?_ | refine BA rfl rfl rfl rfl rfl rfl rfl ?_) | refine V1 rfl rfl rfl ?_) | (refine IsAt ?_; (with_reducible refine T1 ?_)) | (refine IsJ ?_; first | refine J_seq ?_ | refine J_region ?_ | refine J_skip ?_ | refine J_ret ?_ | (refine IsCond ?_; refine J_cond_f rfl ?_)))
  refine JO_l (OL_call [] rfl rfl rfl (hN) rfl) rfl rfl ?_; rintro _ _ ⟨_, ⟨p, bw, bs, rfl, rfl⟩, rfl⟩
  repeat' (first | (refine IsO ?_; first | refine JO_nil ?_ | (refine IsMove ?_; first | refine M1 rfl rfl rfl ?_ | refine M4 rfl rfl rfl ?_) | (refine IsBin ?_; first | refine B9 rfl rfl rfl rfl rfl rfl rfl ?_ | refine BA rfl rfl rfl rfl rfl rfl rfl ?_) | refine V1 rfl rfl rfl ?_) | (refine IsAt ?_; (with_reducible refine T1 ?_)) | (refine IsJ ?_; first | refine J_seq ?_ | refine J_region ?_ | refine J_skip ?_ | refine J_ret ?_ | (refine IsCond ?_; refine J_cond_f rfl ?_)))
  refine JO_l (OL_call [] rfl rfl rfl (hK) rfl) rfl rfl ?_; rintro _ _ ⟨_, ⟨pm, bm, rfl, rfl⟩, rfl⟩
  repeat' (first | (refine IsO ?_; first | refine JO_nil ?_ | (refine IsMove ?_; first | refine M1 rfl rfl rfl ?_ | refine M4 rfl rfl rfl ?_) | (refine IsBin ?_; first | refine B9 rfl rfl rfl rfl rfl rfl rfl ?_ | refine BA rfl rfl rfl rfl rfl rfl rfl ?_) | refine V1 rfl rfl rfl ?_) | (refine IsAt ?_; (with_reducible refine T1 ?_)) | (refine IsJ ?_; first | refine J_seq ?_ | refine J_region ?_ | refine J_skip ?_ | refine J_ret ?_ | (refine IsCond ?_; refine J_cond_f rfl ?_)))
  have hS : Does Try.prog 13 [ptr p 0, ptr pm 0, .int .i64 2, .int .i64 1] (heapL p bw bs 3 (List.replicate 3 0) 0 (List.replicate 3 false) ++ marksL pm bm 3 (List.replicate ((3 + 63) / 64) 0)) _ :=
    SliderNew_ok (n := 3) (T := 0) (os := []) 2 1 (by decide) (by unfold In64; decide) (HT.new (by decide)) rfl (MI.new (by decide)) (fun j o hj => by cases hj) (fun j o hj => by cases hj) (by decide)
  refine JO_l (OL_call [2, 2, 2, 0, 0] rfl rfl rfl hS rfl) rfl rfl ?_
  rintro _ _ ⟨_, ⟨ps, pf, w, nR, bst, bf, pw, bw2, pz, bz, rs, fs, wa, wc, xs, hw, hF, hnR, hxl, hxs, rfl, rfl⟩, rfl⟩
  have hn0 : nR = 0 := by
    rw [hnR]
    unfold numR
    exact Nat.div_eq_of_lt (by omega)
  clear hF hnR hxs
  subst hn0
  have hO : OverP (List.replicate (3 + 0) 0) 0 ((((0 : Nat) : Int) - ((szL (lvs (List.replicate ((3 + 63) / 64) 0) []) : Nat) : Int) + 16 - 1) / 16) := ⟨fun k y hk => absurd hk (Nat.not_lt_zero _), rfl⟩
  repeat' (first | (refine IsO ?_; first | refine JO_nil ?_ | (refine IsMove ?_; first | refine M1 rfl rfl rfl ?_ | refine M4 rfl rfl rfl ?_) | (refine IsBin ?_; first | refine B9 rfl rfl rfl rfl rfl rfl rfl ?_ | refine BA rfl rfl rfl rfl rfl rfl rfl ?_) | refine V1 rfl rfl rfl ?_) | (refine IsAt ?_; (with_reducible refine T1 ?_)) | (refine IsJ ?_; first | refine J_seq ?_ | refine J_region ?_ | refine J_skip ?_ | refine J_ret ?_ | (refine IsCond ?_; refine J_cond_f rfl ?_)))
  refine JO_l (OL_call [0, 0, 0, 0, 0, 0, 0, 0, 0, 0, 0, 0, 0, 0] rfl rfl rfl (Over_spec rfl (by decide)) rfl) rfl rfl ?_
  rintro _ _ ⟨_, ⟨t, ht, rfl, rfl⟩, rfl⟩
  obtain rfl : t = true := ht.2 hO
  clear ht
  repeat' (first | (refine IsO ?_; first | refine JO_nil ?_ | (refine IsMove ?_; first | refine M1 rfl rfl rfl ?_ | refine M4 rfl rfl rfl ?_) | (refine IsBin ?_; first | refine B9 rfl rfl rfl rfl rfl rfl rfl ?_ | refine BA rfl rfl rfl rfl rfl rfl rfl ?_) | refine V1 rfl rfl rfl ?_) | (refine IsAt ?_; (with_reducible refine T1 ?_)) | (refine IsJ ?_; first | refine J_seq ?_ | refine J_region ?_ | refine J_skip ?_ | refine J_ret ?_ | (refine IsCond ?_; refine J_cond_f rfl ?_)))
  have hE := SlStep_end (ps := ps) (pf := pf) (p := p) (bw := bw) (bs := bs) (pm := pm) (bm := bm) (bst := bst) (bf := bf) (n := 3) (T := 0) (w := w) (nR := 0) (pw := pw) (bw2 := bw2) (pz := pz) (bz := bz) (ws := List.replicate 3 0) (st := List.replicate 3 false) (ms := List.replicate ((3 + 63) / 64) 0) (rs := rs) (fs := fs) (wds := List.replicate 3 0) (wa := wa) (wc := wc) (xs := xs) (mv := 0) (tv := 0) (who := 0) ⟨by decide, by omega⟩ rfl (by decide) hO
  refine JO_l (OL_call [0, 0, 0, 0, 0, 0, 0, 0, 0, 0, 0, 0, 0, 0] rfl rfl rfl hE rfl) rfl rfl ?_
  rintro _ _ ⟨_, ⟨rfl, rfl⟩, rfl⟩
  repeat' (first | (refine IsO ?_; first | refine JO_nil ?_ | (refine IsMove ?_; first | refine M1 rfl rfl rfl ?_ | refine M4 rfl rfl rfl ?_) | (refine IsBin ?_; first | refine B9 rfl rfl rfl rfl rfl rfl rfl ?_ | refine BA rfl rfl rfl rfl rfl rfl rfl ?_) | refine V1 rfl rfl rfl ?_) | (refine IsAt ?_; (with_reducible refine T1 ?_)) | (refine IsJ ?_; first | refine J_seq ?_ | refine J_region ?_ | refine J_skip ?_ | refine J_ret ?_ | (refine IsCond ?_; refine J_cond_f rfl ?_)))
  exact At_ret1 rfl rfl rfl (is := []) rfl ⟨rfl, rfl⟩
end Go.Proofs.Ytahfnbpbdnmggaa
/-
  Our own: the law function besomlaw14.SliderSame.
-/
set_option linter.unusedVariables false
set_option linter.unusedSimpArgs false
namespace Go.Proofs.Ytahfnbpbdnmggaa
open Go.Sep
theorem mod_cover {W k j : Nat} (hj : j < W) : ∃ i, i < W ∧ j = (i + k) % W := by
  refine ⟨(j + (W - k % W)) % W, Nat.mod_lt _ (by omega), ?_⟩
  have h1 := Nat.div_add_mod k W
  have h2 := Nat.mod_lt k (show 0 < W by omega)
  rw [Nat.mod_add_mod, show j + (W - k % W) + k = j + W * (k / W + 1) by rw [Nat.mul_add, Nat.mul_one]; omega, Nat.add_mul_mod_self_left, Nat.mod_eq_of_lt hj]
set_option maxHeartbeats 32000000 in
theorem SliderSame_law {W0 : World} {g : GG} (hG : GOk (Low W0) g) {x0 x1 x2 x3 : Int} (hx0 : 0 ≤ x0 ∧ x0 ≤ 255) (hx1 : 0 ≤ x1 ∧ x1 ≤ 255) (hx2 : 0 ≤ x2 ∧ x2 ≤ 255) (hx3 : 0 ≤ x3 ∧ x3 ≤ 255) :
    Does Try.prog 4 [gV g, .agg #[.int .u8 x0, .int .u8 x1, .int .u8 x2, .int .u8 x3]] [Low W0] (fun v l => v = .bool true ∧ l = [Low W0]) := by
  refine Does.of tiok Try.func4 (by kernel_rfl) rfl Try.ntmps4 rfl ?_
  intro W fr
  repeat' (first | (refine IsO ?_; first | refine JO_nil ?_ | (refine IsG ?_; refine G1 rfl rfl ?_) | (refine IsMove ?_; first | refine M1 rfl rfl rfl ?_ | refine M2 rfl rfl rfl ?_ | refine M4 rfl rfl rfl ?_) | (refine IsBin ?_; first | refine B1 rfl rfl rfl rfl ?_ | refine B3 rfl rfl rfl rfl ?_ | refine B5 rfl rfl rfl rfl ?_ | refine B6 rfl rfl rfl rfl ?_ | refine B9 rfl rfl rfl rfl rfl rfl rfl ?_) | (refine IsConv ?_; refine C1 rfl rfl rfl rfl rfl ?_) | (refine IsLoad ?_; first | refine L1 rfl rfl rfl rfl ?_ | refine L2 rfl rfl rfl rfl rfl ?_) | (refine IsStore ?_; refine S1 rfl rfl rfl rfl rfl rfl rfl (fun _ => ?_)) | (refine IsBox ?_; refine N1 rfl rfl rfl rfl (fun _ => ?_)) | (refine IsAlloc ?_; refine N2 rfl rfl rfl rfl (fun _ => ?_)) | refine V1 rfl rfl rfl ?_) | (refine IsAt ?_; first | (with_reducible first | refine T1 ?_ | refine T2 ?_ | refine T3 ?_ | refine T5 ?_ | refine T6 ?_) | ((with_reducible show At _ (PBlock _ _ (Exit.exit _)) _ _); refine At_block_hit ?_)) | (refine IsJ ?_; first | refine J_seq ?_ | refine J_region ?_ | refine J_block ?_ | refine J_skip ?_ | refine J_ret ?_ | refine J_exit ?_ | (refine IsCond ?_; first | refine J_cond_t rfl ?_ | refine J_cond_f rfl ?_ | refine K4 rfl ?_ | refine J_cb rfl (fun _ => ?_) (fun _ => ?_))))
  refine JO_l (OL_call [] rfl rfl rfl (awake14_spec) rfl) rfl rfl ?_; rintro _ _ ⟨_, ⟨rfl, rfl⟩, rfl⟩
  repeat' (first | (refine IsO ?_; first | refine JO_nil ?_ | (refine IsG ?_; refine G1 rfl rfl ?_) | (refine IsMove ?_; first | refine M1 rfl rfl rfl ?_ | refine M2 rfl rfl rfl ?_ | refine M4 rfl rfl rfl ?_) | (refine IsBin ?_; first | refine B1 rfl rfl rfl rfl ?_ | refine B3 rfl rfl rfl rfl ?_ | refine B5 rfl rfl rfl rfl ?_ | refine B6 rfl rfl rfl rfl ?_ | refine B9 rfl rfl rfl rfl rfl rfl rfl ?_) | (refine IsConv ?_; refine C1 rfl rfl rfl rfl rfl ?_) | (refine IsLoad ?_; first | refine L1 rfl rfl rfl rfl ?_ | refine L2 rfl rfl rfl rfl rfl ?_) | (refine IsStore ?_; refine S1 rfl rfl rfl rfl rfl rfl rfl (fun _ => ?_)) | (refine IsBox ?_; refine N1 rfl rfl rfl rfl (fun _ => ?_)) | (refine IsAlloc ?_; refine N2 rfl rfl rfl rfl (fun _ => ?_)) | refine V1 rfl rfl rfl ?_) | (refine IsAt ?_; first | (with_reducible first | refine T1 ?_ | refine T2 ?_ | refine T3 ?_ | refine T5 ?_ | refine T6 ?_) | ((with_reducible show At _ (PBlock _ _ (Exit.exit _)) _ _); refine At_block_hit ?_)) | (refine IsJ ?_; first | refine J_seq ?_ | refine J_region ?_ | refine J_block ?_ | refine J_skip ?_ | refine J_ret ?_ | refine J_exit ?_ | (refine IsCond ?_; first | refine J_cond_t rfl ?_ | refine J_cond_f rfl ?_ | refine K4 rfl ?_ | refine J_cb rfl (fun _ => ?_) (fun _ => ?_))))
  refine JO_l (OL_call [2] rfl rfl rfl (Few_spec hG) rfl) rfl rfl ?_; rintro _ _ ⟨_, ⟨rfl, rfl⟩, rfl⟩
  cases hf : fewB g with
  | false =>
    repeat' (first | (refine IsO ?_; first | refine JO_nil ?_ | (refine IsG ?_; refine G1 rfl rfl ?_) | (refine IsMove ?_; first | refine M1 rfl rfl rfl ?_ | refine M2 rfl rfl rfl ?_ | refine M4 rfl rfl rfl ?_) | (refine IsBin ?_; first | refine B1 rfl rfl rfl rfl ?_ | refine B3 rfl rfl rfl rfl ?_ | refine B5 rfl rfl rfl rfl ?_ | refine B6 rfl rfl rfl rfl ?_ | refine B9 rfl rfl rfl rfl rfl rfl rfl ?_) | (refine IsConv ?_; refine C1 rfl rfl rfl rfl rfl ?_) | (refine IsLoad ?_; first | refine L1 rfl rfl rfl rfl ?_ | refine L2 rfl rfl rfl rfl rfl ?_) | (refine IsStore ?_; refine S1 rfl rfl rfl rfl rfl rfl rfl (fun _ => ?_)) | (refine IsBox ?_; refine N1 rfl rfl rfl rfl (fun _ => ?_)) | (refine IsAlloc ?_; refine N2 rfl rfl rfl rfl (fun _ => ?_)) | refine V1 rfl rfl rfl ?_) | (refine IsAt ?_; first | (with_reducible first | refine T1 ?_ | refine T2 ?_ | refine T3 ?_ | refine T5 ?_ | refine T6 ?_) | ((with_reducible show At _ (PBlock _ _ (Exit.exit _)) _ _); refine At_block_hit ?_)) | (refine IsJ ?_; first | refine J_seq ?_ | refine J_region ?_ | refine J_block ?_ | refine J_skip ?_ | refine J_ret ?_ | refine J_exit ?_ | (refine IsCond ?_; first | refine J_cond_t rfl ?_ | refine J_cond_f rfl ?_ | refine K4 rfl ?_ | refine J_cb rfl (fun _ => ?_) (fun _ => ?_))))
    refine JO_l (OL_call [] rfl rfl rfl (awake14_spec) rfl) rfl rfl ?_; rintro _ _ ⟨_, ⟨rfl, rfl⟩, rfl⟩
    repeat' (first | (refine IsO ?_; first | refine JO_nil ?_ | (refine IsG ?_; refine G1 rfl rfl ?_) | (refine IsMove ?_; first | refine M1 rfl rfl rfl ?_ | refine M2 rfl rfl rfl ?_ | refine M4 rfl rfl rfl ?_) | (refine IsBin ?_; first | refine B1 rfl rfl rfl rfl ?_ | refine B3 rfl rfl rfl rfl ?_ | refine B5 rfl rfl rfl rfl ?_ | refine B6 rfl rfl rfl rfl ?_ | refine B9 rfl rfl rfl rfl rfl rfl rfl ?_) | (refine IsConv ?_; refine C1 rfl rfl rfl rfl rfl ?_) | (refine IsLoad ?_; first | refine L1 rfl rfl rfl rfl ?_ | refine L2 rfl rfl rfl rfl rfl ?_) | (refine IsStore ?_; refine S1 rfl rfl rfl rfl rfl rfl rfl (fun _ => ?_)) | (refine IsBox ?_; refine N1 rfl rfl rfl rfl (fun _ => ?_)) | (refine IsAlloc ?_; refine N2 rfl rfl rfl rfl (fun _ => ?_)) | refine V1 rfl rfl rfl ?_) | (refine IsAt ?_; first | (with_reducible first | refine T1 ?_ | refine T2 ?_ | refine T3 ?_ | refine T5 ?_ | refine T6 ?_) | ((with_reducible show At _ (PBlock _ _ (Exit.exit _)) _ _); refine At_block_hit ?_)) | (refine IsJ ?_; first | refine J_seq ?_ | refine J_region ?_ | refine J_block ?_ | refine J_skip ?_ | refine J_ret ?_ | refine J_exit ?_ | (refine IsCond ?_; first | refine J_cond_t rfl ?_ | refine J_cond_f rfl ?_ | refine K4 rfl ?_ | refine J_cb rfl (fun _ => ?_) (fun _ => ?_))))
    exact At_ret rfl rfl (.tmp rfl .nil) rfl (is := [0]) rfl ⟨rfl, rfl⟩
  | true =>
  obtain ⟨hn14, hr14, he10, hnd224⟩ := few_need hG hf
  repeat' (first | (refine IsO ?_; first | refine JO_nil ?_ | (refine IsG ?_; refine G1 rfl rfl ?_) | (refine IsMove ?_; first | refine M1 rfl rfl rfl ?_ | refine M2 rfl rfl rfl ?_ | refine M4 rfl rfl rfl ?_) | (refine IsBin ?_; first | refine B1 rfl rfl rfl rfl ?_ | refine B3 rfl rfl rfl rfl ?_ | refine B5 rfl rfl rfl rfl ?_ | refine B6 rfl rfl rfl rfl ?_ | refine B9 rfl rfl rfl rfl rfl rfl rfl ?_) | (refine IsConv ?_; refine C1 rfl rfl rfl rfl rfl ?_) | (refine IsLoad ?_; first | refine L1 rfl rfl rfl rfl ?_ | refine L2 rfl rfl rfl rfl rfl ?_) | (refine IsStore ?_; refine S1 rfl rfl rfl rfl rfl rfl rfl (fun _ => ?_)) | (refine IsBox ?_; refine N1 rfl rfl rfl rfl (fun _ => ?_)) | (refine IsAlloc ?_; refine N2 rfl rfl rfl rfl (fun _ => ?_)) | refine V1 rfl rfl rfl ?_) | (refine IsAt ?_; first | (with_reducible first | refine T1 ?_ | refine T2 ?_ | refine T3 ?_ | refine T5 ?_ | refine T6 ?_) | ((with_reducible show At _ (PBlock _ _ (Exit.exit _)) _ _); refine At_block_hit ?_)) | (refine IsJ ?_; first | refine J_seq ?_ | refine J_region ?_ | refine J_block ?_ | refine J_skip ?_ | refine J_ret ?_ | refine J_exit ?_ | (refine IsCond ?_; first | refine J_cond_t rfl ?_ | refine J_cond_f rfl ?_ | refine K4 rfl ?_ | refine J_cb rfl (fun _ => ?_) (fun _ => ?_))))
  refine JO_l (OL_call [0] rfl rfl rfl (Reached_spec hG hf) rfl) rfl rfl ?_
  rintro _ _ ⟨_, ⟨p, bw, bs, n, T, ws, st, a, cap, os, ra, rc, pm, bm, ms, b, rts, hB, hn, hM, hrts, hRM, hroot, rfl, rfl⟩, rfl⟩
  have hr := hRM.right hB.ht hB.ch hB.ro
  have hld := LeadP.of hB.ht hB.ch hB.ro
  repeat' (first | (refine IsO ?_; first | refine JO_nil ?_ | (refine IsG ?_; refine G1 rfl rfl ?_) | (refine IsMove ?_; first | refine M1 rfl rfl rfl ?_ | refine M2 rfl rfl rfl ?_ | refine M4 rfl rfl rfl ?_) | (refine IsBin ?_; first | refine B1 rfl rfl rfl rfl ?_ | refine B3 rfl rfl rfl rfl ?_ | refine B5 rfl rfl rfl rfl ?_ | refine B6 rfl rfl rfl rfl ?_ | refine B9 rfl rfl rfl rfl rfl rfl rfl ?_) | (refine IsConv ?_; refine C1 rfl rfl rfl rfl rfl ?_) | (refine IsLoad ?_; first | refine L1 rfl rfl rfl rfl ?_ | refine L2 rfl rfl rfl rfl rfl ?_) | (refine IsStore ?_; refine S1 rfl rfl rfl rfl rfl rfl rfl (fun _ => ?_)) | (refine IsBox ?_; refine N1 rfl rfl rfl rfl (fun _ => ?_)) | (refine IsAlloc ?_; refine N2 rfl rfl rfl rfl (fun _ => ?_)) | refine V1 rfl rfl rfl ?_) | (refine IsAt ?_; first | (with_reducible first | refine T1 ?_ | refine T2 ?_ | refine T3 ?_ | refine T5 ?_ | refine T6 ?_) | ((with_reducible show At _ (PBlock _ _ (Exit.exit _)) _ _); refine At_block_hit ?_)) | (refine IsJ ?_; first | refine J_seq ?_ | refine J_region ?_ | refine J_block ?_ | refine J_skip ?_ | refine J_ret ?_ | refine J_exit ?_ | (refine IsCond ?_; first | refine J_cond_t rfl ?_ | refine J_cond_f rfl ?_ | refine K4 rfl ?_ | refine J_cb rfl (fun _ => ?_) (fun _ => ?_))))
  rename_i bg b3 b8 _ b10
  have htn := hB.ht.tn
  have hnb := hB.ht.nb
  have hszL := goI_bd (ms := ms) (os := os) (q := os.length)
  rw [goI_all] at hszL
  have hos := hB.ch.sz
  have hNl := NWI_len (ms := ms) hB.ch hB.ht.wl htn
  obtain ⟨V2, hV2⟩ : ∃ V2, V2 = NWI T ws ms os ++ [((szL (lvs ms os) : Nat) : Int)] := ⟨_, rfl⟩
  have hVl : V2.length = n + 1 := by rw [hV2, List.length_append, hNl]; rfl
  have hBnd : 10 * (n + 10) * (n + 10) ≤ 1000000000 := by
    have hb : (n + 10) * (n + 10) ≤ 1000 * 1000 := Nat.mul_le_mul (by omega) (by omega)
    rw [Nat.mul_assoc]; omega
  obtain ⟨Bnd, hBe⟩ : ∃ Bnd, Bnd = 10 * (n + 10) * (n + 10) := ⟨_, rfl⟩
  have hBI : (10 * ((n : Int) + 10)) * ((n : Int) + 10) = (Bnd : Int) := by rw [hBe]; simp
  rw [← hBe] at hBnd
  refine J_loop (α := Nat × (Option Addr × Nat × Nat) × (Option Addr × Nat × Nat)) (fun x => x.1 ≤ 2 ∧ (1 ≤ x.1 → x.2.1.2.1 = n + 1) ∧ (x.1 = 2 → x.2.2.2.1 = n + 1))
    (fun x => [(3, ptr b3 0), (5, ptr p 0), (7, ptr pm 0), (10, ptr b10 0), (36, .int .i64 x.1)]) (fun x => heapL p bw bs n ws T st ++ (marksL pm bm n ms ++ [blk b10 [.slice x.2.1.1 x.2.1.2.1 x.2.1.2.2, .slice x.2.2.1 x.2.2.2.1 x.2.2.2.2] 60, rowz 3 1 x.2.1.1 x.2.1.2.1 x.2.1.2.2 (intsV (V2.take x.2.1.2.1)), rowz 3 1 x.2.2.1 x.2.2.2.1 x.2.2.2.2 (intsV (V2.take x.2.2.2.1)), blk b3 [.int .u8 x0, .int .u8 x1, .int .u8 x2, .int .u8 x3] 57, Low W0]))
    (fun x => 2 - x.1) (0, (none, 0, 0), (none, 0, 0)) ⟨by decide, fun h => absurd h (by decide), fun h => by cases h⟩ (by repeat (first | exact True.intro | refine And.intro rfl ?_)) (fun H hl => ?_) ?_
  · exact (rowz_nil (T := 3) (sz := 1) (a := none) (rowz_nil (T := 3) (sz := 1) (a := none) hl)).pick (is := [4, 4, 4, 4, 4, 2, 0, 0, 6, 5]) rfl
  rintro ⟨i, ⟨a0, m0, c0⟩, ⟨a1, m1, c1⟩⟩ ⟨hi2, hm0, hm1⟩
  dsimp only at hi2 hm0 hm1 ⊢
  repeat' (first | (refine IsO ?_; first | refine JO_nil ?_ | (refine IsG ?_; refine G1 rfl rfl ?_) | (refine IsMove ?_; first | refine M1 rfl rfl rfl ?_ | refine M2 rfl rfl rfl ?_ | refine M4 rfl rfl rfl ?_) | (refine IsBin ?_; first | refine B1 rfl rfl rfl rfl ?_ | refine B3 rfl rfl rfl rfl ?_ | refine B5 rfl rfl rfl rfl ?_ | refine B6 rfl rfl rfl rfl ?_ | refine B9 rfl rfl rfl rfl rfl rfl rfl ?_) | (refine IsConv ?_; refine C1 rfl rfl rfl rfl rfl ?_) | (refine IsLoad ?_; first | refine L1 rfl rfl rfl rfl ?_ | refine L2 rfl rfl rfl rfl rfl ?_) | (refine IsStore ?_; refine S1 rfl rfl rfl rfl rfl rfl rfl (fun _ => ?_)) | (refine IsBox ?_; refine N1 rfl rfl rfl rfl (fun _ => ?_)) | (refine IsAlloc ?_; refine N2 rfl rfl rfl rfl (fun _ => ?_)) | refine V1 rfl rfl rfl ?_) | (refine IsAt ?_; first | (with_reducible first | refine T1 ?_ | refine T2 ?_ | refine T3 ?_ | refine T5 ?_ | refine T6 ?_) | ((with_reducible show At _ (PBlock _ _ (Exit.exit _)) _ _); refine At_block_hit ?_)) | (refine IsJ ?_; first | refine J_seq ?_ | refine J_region ?_ | refine J_skip ?_ | refine J_ret ?_ | refine J_exit ?_ | (refine IsCond ?_; first | refine J_cond_t rfl ?_ | refine J_cond_f rfl ?_ | refine K4 rfl ?_ | refine J_cb rfl (fun _ => ?_) (fun _ => ?_))))
  · rename_i hlt
    refine J_block ?_
    obtain ⟨y0, y1, e0, e1, hb0, hb1⟩ : ∃ y0 y1 : Int, [Value.int .u8 x0, .int .u8 x1, .int .u8 x2, .int .u8 x3][2 * i]? = some (.int .u8 y0) ∧ [Value.int .u8 x0, .int .u8 x1, .int .u8 x2, .int .u8 x3][2 * i + 1]? = some (.int .u8 y1) ∧ (0 ≤ y0 ∧ y0 ≤ 255) ∧ (0 ≤ y1 ∧ y1 ≤ 255) := by
      rcases (by omega : i = 0 ∨ i = 1) with rfl | rfl
      · exact ⟨x0, x1, rfl, rfl, hx0, hx1⟩
      · exact ⟨x2, x3, rfl, rfl, hx2, hx3⟩
    repeat' (first | (refine IsO ?_; first | refine JO_nil ?_ | (refine IsG ?_; refine G1 rfl rfl ?_) | (refine IsMove ?_; first | refine M1 rfl rfl rfl ?_ | refine M2 rfl rfl rfl ?_ | refine M4 rfl rfl rfl ?_) | (refine IsBin ?_; first | refine B1 rfl rfl rfl rfl ?_ | refine B3 rfl rfl rfl rfl ?_ | refine B5 rfl rfl rfl rfl ?_ | refine B6 rfl rfl rfl rfl ?_ | refine B9 rfl rfl rfl rfl rfl rfl rfl ?_) | (refine IsConv ?_; refine C1 rfl rfl rfl rfl rfl ?_) | (refine IsLoad ?_; first | refine L1 rfl rfl rfl rfl ?_ | refine L2 rfl rfl rfl rfl rfl ?_) | (refine IsStore ?_; refine S1 rfl rfl rfl rfl rfl rfl rfl (fun _ => ?_)) | (refine IsBox ?_; refine N1 rfl rfl rfl rfl (fun _ => ?_)) | (refine IsAlloc ?_; refine N2 rfl rfl rfl rfl (fun _ => ?_)) | refine V1 rfl rfl rfl ?_) | (refine IsAt ?_; first | (with_reducible first | refine T1 ?_ | refine T2 ?_ | refine T3 ?_ | refine T5 ?_ | refine T6 ?_) | ((with_reducible show At _ (PBlock _ _ (Exit.exit _)) _ _); refine At_block_hit ?_)) | (refine IsJ ?_; first | refine J_seq ?_ | refine J_region ?_ | refine J_block ?_ | refine J_skip ?_ | refine J_ret ?_ | refine J_exit ?_ | (refine IsCond ?_; first | refine J_cond_t rfl ?_ | refine J_cond_f rfl ?_ | refine K4 rfl ?_ | refine J_cb rfl (fun _ => ?_) (fun _ => ?_))))
    refine JO_val (OV_idxA (off := 2 * i) rfl rfl rfl rfl (by omega) (by omega) (by omega)) rfl rfl ?_
    refine JO_q (OQ_load (v := .int .u8 y0) rfl rfl (by repeat (first | exact .head _ | refine .tail _ ?_)) e0) rfl rfl ?_
    repeat' (first | (refine IsO ?_; first | refine JO_nil ?_ | (refine IsG ?_; refine G1 rfl rfl ?_) | (refine IsMove ?_; first | refine M1 rfl rfl rfl ?_ | refine M2 rfl rfl rfl ?_ | refine M4 rfl rfl rfl ?_) | (refine IsBin ?_; first | refine B1 rfl rfl rfl rfl ?_ | refine B3 rfl rfl rfl rfl ?_ | refine B5 rfl rfl rfl rfl ?_ | refine B6 rfl rfl rfl rfl ?_ | refine B9 rfl rfl rfl rfl rfl rfl rfl ?_) | (refine IsConv ?_; refine C1 rfl rfl rfl rfl rfl ?_) | (refine IsLoad ?_; first | refine L1 rfl rfl rfl rfl ?_ | refine L2 rfl rfl rfl rfl rfl ?_) | (refine IsStore ?_; refine S1 rfl rfl rfl rfl rfl rfl rfl (fun _ => ?_)) | (refine IsBox ?_; refine N1 rfl rfl rfl rfl (fun _ => ?_)) | (refine IsAlloc ?_; refine N2 rfl rfl rfl rfl (fun _ => ?_)) | refine V1 rfl rfl rfl ?_) | (refine IsAt ?_; first | (with_reducible first | refine T1 ?_ | refine T2 ?_ | refine T3 ?_ | refine T5 ?_ | refine T6 ?_) | ((with_reducible show At _ (PBlock _ _ (Exit.exit _)) _ _); refine At_block_hit ?_)) | (refine IsJ ?_; first | refine J_seq ?_ | refine J_region ?_ | refine J_block ?_ | refine J_skip ?_ | refine J_ret ?_ | refine J_exit ?_ | (refine IsCond ?_; first | refine J_cond_t rfl ?_ | refine J_cond_f rfl ?_ | refine K4 rfl ?_ | refine J_cb rfl (fun _ => ?_) (fun _ => ?_))))
    refine JO_val (OV_idxA (off := 2 * i + 1) rfl rfl rfl rfl (by omega) (by omega) (by omega)) rfl rfl ?_
    refine JO_q (OQ_load (v := .int .u8 y1) rfl rfl (by repeat (first | exact .head _ | refine .tail _ ?_)) e1) rfl rfl ?_
    repeat' (first | (refine IsO ?_; first | refine JO_nil ?_ | (refine IsG ?_; refine G1 rfl rfl ?_) | (refine IsMove ?_; first | refine M1 rfl rfl rfl ?_ | refine M2 rfl rfl rfl ?_ | refine M4 rfl rfl rfl ?_) | (refine IsBin ?_; first | refine B1 rfl rfl rfl rfl ?_ | refine B3 rfl rfl rfl rfl ?_ | refine B5 rfl rfl rfl rfl ?_ | refine B6 rfl rfl rfl rfl ?_ | refine B9 rfl rfl rfl rfl rfl rfl rfl ?_) | (refine IsConv ?_; refine C1 rfl rfl rfl rfl rfl ?_) | (refine IsLoad ?_; first | refine L1 rfl rfl rfl rfl ?_ | refine L2 rfl rfl rfl rfl rfl ?_) | (refine IsStore ?_; refine S1 rfl rfl rfl rfl rfl rfl rfl (fun _ => ?_)) | (refine IsBox ?_; refine N1 rfl rfl rfl rfl (fun _ => ?_)) | (refine IsAlloc ?_; refine N2 rfl rfl rfl rfl (fun _ => ?_)) | refine V1 rfl rfl rfl ?_) | (refine IsAt ?_; first | (with_reducible first | refine T1 ?_ | refine T2 ?_ | refine T3 ?_ | refine T5 ?_ | refine T6 ?_) | ((with_reducible show At _ (PBlock _ _ (Exit.exit _)) _ _); refine At_block_hit ?_)) | (refine IsJ ?_; first | refine J_seq ?_ | refine J_region ?_ | refine J_block ?_ | refine J_skip ?_ | refine J_ret ?_ | refine J_exit ?_ | (refine IsCond ?_; first | refine J_cond_t rfl ?_ | refine J_cond_f rfl ?_ | refine K4 rfl ?_ | refine J_cb rfl (fun _ => ?_) (fun _ => ?_))))
    obtain ⟨wk, hwk⟩ : ∃ wk : Nat, 1 + y0 % 9 = (wk : Int) := ⟨(1 + y0 % 9).toNat, by omega⟩
    rw [hwk]
    refine JO_l (OL_call [0, 0, 0, 0, 0] rfl rfl rfl (New_run (p := p) (bw := bw) (bs := bs) (pm := pm) (bm := bm) y1 wk (by omega) (by constructor <;> omega) hB.ht hB.ch hM hld hr (by omega) (by omega)) rfl) rfl rfl ?_
    rintro _ _ ⟨_, ⟨ps, pf, w, nR, bst, bf, pw, bw2, pz, bz, rs, fs, wa, wc, s0, F, hs0, hPhi0, htv0, hmv0, rfl, rfl⟩, rfl⟩
    rw [← hBe] at hPhi0
    repeat' (first | (refine IsO ?_; first | refine JO_nil ?_ | (refine IsG ?_; refine G1 rfl rfl ?_) | (refine IsMove ?_; first | refine M1 rfl rfl rfl ?_ | refine M2 rfl rfl rfl ?_ | refine M4 rfl rfl rfl ?_) | (refine IsBin ?_; first | refine B1 rfl rfl rfl rfl ?_ | refine B3 rfl rfl rfl rfl ?_ | refine B5 rfl rfl rfl rfl ?_ | refine B6 rfl rfl rfl rfl ?_ | refine B9 rfl rfl rfl rfl rfl rfl rfl ?_) | (refine IsConv ?_; refine C1 rfl rfl rfl rfl rfl ?_) | (refine IsLoad ?_; first | refine L1 rfl rfl rfl rfl ?_ | refine L2 rfl rfl rfl rfl rfl ?_) | (refine IsStore ?_; refine S1 rfl rfl rfl rfl rfl rfl rfl (fun _ => ?_)) | (refine IsBox ?_; refine N1 rfl rfl rfl rfl (fun _ => ?_)) | (refine IsAlloc ?_; refine N2 rfl rfl rfl rfl (fun _ => ?_)) | refine V1 rfl rfl rfl ?_) | (refine IsAt ?_; first | (with_reducible first | refine T1 ?_ | refine T2 ?_ | refine T3 ?_ | refine T5 ?_ | refine T6 ?_) | ((with_reducible show At _ (PBlock _ _ (Exit.exit _)) _ _); refine At_block_hit ?_)) | (refine IsJ ?_; first | refine J_seq ?_ | refine J_region ?_ | refine J_block ?_ | refine J_skip ?_ | refine J_ret ?_ | refine J_exit ?_ | (refine IsCond ?_; first | refine J_cond_t rfl ?_ | refine J_cond_f rfl ?_ | refine K4 rfl ?_ | refine J_cb rfl (fun _ => ?_) (fun _ => ?_))))
    refine J_loop (α := Nat × RSt) (fun x => x.1 ≤ Bnd ∧ ROk n T w nR ws os ms wk x.2 ∧ x.2.tv ≤ 64 * x.1 ∧ (ROv T nR os ms x.2 ∨ x.1 + RPhi T w nR ws os ms x.2 < Bnd))
      (fun x => [(3, ptr b3 0), (5, ptr p 0), (7, ptr pm 0), (10, ptr b10 0), (11, .int .i64 i), (12, .int .i64 wk), (13, ptr ps 0), (15, .int .i64 x.1), (36, .int .i64 i)]) (fun x => sldR ps pf p bw bs pm bm bst bf n T w nR pw bw2 pz bz ws st ms rs fs wa wc (szL (lvs ms os)) x.2 ++ [blk b10 [.slice a0 m0 c0, .slice a1 m1 c1] 60, rowz 3 1 a0 m0 c0 (intsV (V2.take m0)), rowz 3 1 a1 m1 c1 (intsV (V2.take m1)), blk b3 [.int .u8 x0, .int .u8 x1, .int .u8 x2, .int .u8 x3] 57, Low W0]) (fun x => Bnd - x.1) (0, s0) ⟨Nat.zero_le _, hs0, by dsimp only; omega, .inr (by rw [Nat.zero_add]; exact hPhi0)⟩ (by repeat (first | exact True.intro | refine And.intro rfl ?_)) (fun H hl => hl) ?_
    rintro ⟨k, s⟩ ⟨hkB, hs, htv, hov⟩
    dsimp only at hkB hs htv hov ⊢
    apply J_tail (α := RSt) (fun s => ROk n T w nR ws os ms wk s ∧ ROv T nR os ms s) (fun _ => [(3, ptr b3 0), (5, ptr p 0), (7, ptr pm 0), (10, ptr b10 0), (11, .int .i64 i), (12, .int .i64 wk), (13, ptr ps 0), (36, .int .i64 i)]) (fun s => sldR ps pf p bw bs pm bm bst bf n T w nR pw bw2 pz bz ws st ms rs fs wa wc (szL (lvs ms os)) s ++ [blk b10 [.slice a0 m0 c0, .slice a1 m1 c1] 60, rowz 3 1 a0 m0 c0 (intsV (V2.take m0)), rowz 3 1 a1 m1 c1 (intsV (V2.take m1)), blk b3 [.int .u8 x0, .int .u8 x1, .int .u8 x2, .int .u8 x3] 57, Low W0])
    · intro hT
      repeat' (first | (refine IsO ?_; first | refine JO_nil ?_ | (refine IsG ?_; refine G1 rfl rfl ?_) | (refine IsMove ?_; first | refine M1 rfl rfl rfl ?_ | refine M2 rfl rfl rfl ?_ | refine M4 rfl rfl rfl ?_) | (refine IsBin ?_; first | refine B1 rfl rfl rfl rfl ?_ | refine B3 rfl rfl rfl rfl ?_ | refine B5 rfl rfl rfl rfl ?_ | refine B6 rfl rfl rfl rfl ?_ | refine B9 rfl rfl rfl rfl rfl rfl rfl ?_) | (refine IsConv ?_; refine C1 rfl rfl rfl rfl rfl ?_) | (refine IsLoad ?_; first | refine L1 rfl rfl rfl rfl ?_ | refine L2 rfl rfl rfl rfl rfl ?_) | (refine IsStore ?_; refine S1 rfl rfl rfl rfl rfl rfl rfl (fun _ => ?_)) | (refine IsBox ?_; refine N1 rfl rfl rfl rfl (fun _ => ?_)) | (refine IsAlloc ?_; refine N2 rfl rfl rfl rfl (fun _ => ?_)) | refine V1 rfl rfl rfl ?_) | (refine IsAt ?_; first | (with_reducible first | refine T1 ?_ | refine T2 ?_ | refine T3 ?_ | refine T5 ?_ | refine T6 ?_) | ((with_reducible show At _ (PBlock _ _ (Exit.exit _)) _ _); refine At_block_hit ?_)) | (refine IsJ ?_; first | refine J_seq ?_ | refine J_region ?_ | refine J_skip ?_ | refine J_ret ?_ | refine J_exit ?_ | (refine IsCond ?_; first | refine J_cond_t rfl ?_ | refine J_cond_f rfl ?_ | refine K4 rfl ?_ | refine J_cb rfl (fun _ => ?_) (fun _ => ?_))))
      refine JO_l (OL_call [5, 5, 5] rfl rfl rfl heapSize rfl) rfl rfl ?_
      rintro _ _ ⟨_, ⟨rfl, rfl⟩, rfl⟩
      repeat' (first | (refine IsO ?_; first | refine JO_nil ?_ | (refine IsG ?_; refine G1 rfl rfl ?_) | (refine IsMove ?_; first | refine M1 rfl rfl rfl ?_ | refine M2 rfl rfl rfl ?_ | refine M4 rfl rfl rfl ?_) | (refine IsBin ?_; first | refine B1 rfl rfl rfl rfl ?_ | refine B3 rfl rfl rfl rfl ?_ | refine B5 rfl rfl rfl rfl ?_ | refine B6 rfl rfl rfl rfl ?_ | refine B9 rfl rfl rfl rfl rfl rfl rfl ?_) | (refine IsConv ?_; refine C1 rfl rfl rfl rfl rfl ?_) | (refine IsLoad ?_; first | refine L1 rfl rfl rfl rfl ?_ | refine L2 rfl rfl rfl rfl rfl ?_) | (refine IsStore ?_; refine S1 rfl rfl rfl rfl rfl rfl rfl (fun _ => ?_)) | (refine IsBox ?_; refine N1 rfl rfl rfl rfl (fun _ => ?_)) | (refine IsAlloc ?_; refine N2 rfl rfl rfl rfl (fun _ => ?_)) | refine V1 rfl rfl rfl ?_) | (refine IsAt ?_; first | (with_reducible first | refine T1 ?_ | refine T2 ?_ | refine T3 ?_ | refine T5 ?_ | refine T6 ?_) | ((with_reducible show At _ (PBlock _ _ (Exit.exit _)) _ _); refine At_block_hit ?_)) | (refine IsJ ?_; first | refine J_seq ?_ | refine J_region ?_ | refine J_skip ?_ | refine J_ret ?_ | refine J_exit ?_ | (refine IsCond ?_; first | refine J_cond_t rfl ?_ | refine J_cond_f rfl ?_ | refine K4 rfl ?_ | refine J_cb rfl (fun _ => ?_) (fun _ => ?_))))
      refine JO_l (OL_call [0, 0, 0] rfl rfl rfl heapSize rfl) rfl rfl ?_
      rintro _ _ ⟨_, ⟨rfl, rfl⟩, rfl⟩
      by_cases hkB2 : k < Bnd
      · repeat' (first | (refine IsO ?_; first | refine JO_nil ?_ | (refine IsG ?_; refine G1 rfl rfl ?_) | (refine IsMove ?_; first | refine M1 rfl rfl rfl ?_ | refine M2 rfl rfl rfl ?_ | refine M4 rfl rfl rfl ?_) | (refine IsBin ?_; first | refine B1 rfl rfl rfl rfl ?_ | refine B3 rfl rfl rfl rfl ?_ | refine B5 rfl rfl rfl rfl ?_ | refine B6 rfl rfl rfl rfl ?_ | refine B9 rfl rfl rfl rfl rfl rfl rfl ?_) | (refine IsConv ?_; refine C1 rfl rfl rfl rfl rfl ?_) | (refine IsLoad ?_; first | refine L1 rfl rfl rfl rfl ?_ | refine L2 rfl rfl rfl rfl rfl ?_) | (refine IsStore ?_; refine S1 rfl rfl rfl rfl rfl rfl rfl (fun _ => ?_)) | (refine IsBox ?_; refine N1 rfl rfl rfl rfl (fun _ => ?_)) | (refine IsAlloc ?_; refine N2 rfl rfl rfl rfl (fun _ => ?_)) | refine V1 rfl rfl rfl ?_) | (refine IsAt ?_; first | (with_reducible first | refine T1 ?_ | refine T2 ?_ | refine T3 ?_ | refine T5 ?_ | refine T6 ?_) | ((with_reducible show At _ (PBlock _ _ (Exit.exit _)) _ _); refine At_block_hit ?_)) | (refine IsJ ?_; first | refine J_seq ?_ | refine J_region ?_ | refine J_skip ?_ | refine J_ret ?_ | refine J_exit ?_ | (refine IsCond ?_; first | refine J_cond_t rfl ?_ | refine J_cond_f rfl ?_ | refine K4 rfl ?_ | refine J_cb rfl (fun _ => ?_) (fun _ => ?_))))
        refine JO_l (OL_call [3, 3, 3, 3, 3, 0, 0, 0, 0, 0, 0, 0, 0, 0] rfl rfl rfl (Over_run F hs) rfl) rfl rfl ?_
        rintro _ _ ⟨_, ⟨t, ht, rfl, rfl⟩, rfl⟩
        cases t with
        | true =>
          repeat' ((fail_if_success (with_reducible show J _ (Code.seq (Code.region 20 _ _) _) _ _ _)); first | (refine IsO ?_; first | refine JO_nil ?_ | (refine IsG ?_; refine G1 rfl rfl ?_) | (refine IsMove ?_; first | refine M1 rfl rfl rfl ?_ | refine M2 rfl rfl rfl ?_ | refine M4 rfl rfl rfl ?_) | (refine IsBin ?_; first | refine B1 rfl rfl rfl rfl ?_ | refine B3 rfl rfl rfl rfl ?_ | refine B5 rfl rfl rfl rfl ?_ | refine B6 rfl rfl rfl rfl ?_ | refine B9 rfl rfl rfl rfl rfl rfl rfl ?_) | (refine IsConv ?_; refine C1 rfl rfl rfl rfl rfl ?_) | (refine IsLoad ?_; first | refine L1 rfl rfl rfl rfl ?_ | refine L2 rfl rfl rfl rfl rfl ?_) | (refine IsStore ?_; refine S1 rfl rfl rfl rfl rfl rfl rfl (fun _ => ?_)) | (refine IsBox ?_; refine N1 rfl rfl rfl rfl (fun _ => ?_)) | (refine IsAlloc ?_; refine N2 rfl rfl rfl rfl (fun _ => ?_)) | refine V1 rfl rfl rfl ?_) | (refine IsAt ?_; first | (with_reducible first | refine T1 ?_ | refine T2 ?_ | refine T3 ?_ | refine T5 ?_ | refine T6 ?_) | ((with_reducible show At _ (PBlock _ _ (Exit.exit _)) _ _); refine At_block_hit ?_)) | (refine IsJ ?_; first | refine J_seq ?_ | refine J_region ?_ | refine J_block ?_ | refine J_skip ?_ | refine J_ret ?_ | refine J_exit ?_ | (refine IsCond ?_; first | refine J_cond_t rfl ?_ | refine J_cond_f rfl ?_ | refine K4 rfl ?_ | refine J_cb rfl (fun _ => ?_) (fun _ => ?_))))
          exact J_regs (by repeat (first | exact True.intro | refine And.intro rfl ?_)) (J_hp (fun H hl => hl) (hT s ⟨hs, ht.1 rfl⟩))
        | false =>
          have hno : ¬ ROv T nR os ms s := fun e => absurd (ht.2 e) (by decide)
          repeat' (first | (refine IsO ?_; first | refine JO_nil ?_ | (refine IsG ?_; refine G1 rfl rfl ?_) | (refine IsMove ?_; first | refine M1 rfl rfl rfl ?_ | refine M2 rfl rfl rfl ?_ | refine M4 rfl rfl rfl ?_) | (refine IsBin ?_; first | refine B1 rfl rfl rfl rfl ?_ | refine B3 rfl rfl rfl rfl ?_ | refine B5 rfl rfl rfl rfl ?_ | refine B6 rfl rfl rfl rfl ?_ | refine B9 rfl rfl rfl rfl rfl rfl rfl ?_) | (refine IsConv ?_; refine C1 rfl rfl rfl rfl rfl ?_) | (refine IsLoad ?_; first | refine L1 rfl rfl rfl rfl ?_ | refine L2 rfl rfl rfl rfl rfl ?_) | (refine IsStore ?_; refine S1 rfl rfl rfl rfl rfl rfl rfl (fun _ => ?_)) | (refine IsBox ?_; refine N1 rfl rfl rfl rfl (fun _ => ?_)) | (refine IsAlloc ?_; refine N2 rfl rfl rfl rfl (fun _ => ?_)) | refine V1 rfl rfl rfl ?_) | (refine IsAt ?_; first | (with_reducible first | refine T1 ?_ | refine T2 ?_ | refine T3 ?_ | refine T5 ?_ | refine T6 ?_) | ((with_reducible show At _ (PBlock _ _ (Exit.exit _)) _ _); refine At_block_hit ?_)) | (refine IsJ ?_; first | refine J_seq ?_ | refine J_region ?_ | refine J_block ?_ | refine J_skip ?_ | refine J_ret ?_ | refine J_exit ?_ | (refine IsCond ?_; first | refine J_cond_t rfl ?_ | refine J_cond_f rfl ?_ | refine K4 rfl ?_ | refine J_cb rfl (fun _ => ?_) (fun _ => ?_))))
          refine J_loop (α := Nat × RSt) (fun x => x.1 ≤ wk ∧ ROk n T w nR ws os ms wk x.2 ∧ x.2.tv ≤ 64 * k + x.1 ∧ RRnd T w nR ws os ms x.2 (RPhi T w nR ws os ms s) (fun j => ∃ i', i' < x.1 ∧ j = (i' + k) % wk))
            (fun x => (15, .int .i64 k) :: (82, .int .i64 wk) :: (83, .int .i64 x.1) :: [(3, ptr b3 0), (5, ptr p 0), (7, ptr pm 0), (10, ptr b10 0), (11, .int .i64 i), (12, .int .i64 wk), (13, ptr ps 0), (36, .int .i64 i)]) (fun x => sldR ps pf p bw bs pm bm bst bf n T w nR pw bw2 pz bz ws st ms rs fs wa wc (szL (lvs ms os)) x.2 ++ [blk b10 [.slice a0 m0 c0, .slice a1 m1 c1] 60, rowz 3 1 a0 m0 c0 (intsV (V2.take m0)), rowz 3 1 a1 m1 c1 (intsV (V2.take m1)), blk b3 [.int .u8 x0, .int .u8 x1, .int .u8 x2, .int .u8 x3] 57, Low W0]) (fun x => wk - x.1) (0, s) ⟨Nat.zero_le _, hs, by dsimp only; omega, .inr (.inr ⟨Nat.le_refl _, fun j x ⟨i', hi', _⟩ => absurd hi' (Nat.not_lt_zero _)⟩)⟩ (by repeat (first | exact True.intro | refine And.intro rfl ?_)) (fun H hl => hl) ?_
          rintro ⟨q, s1⟩ ⟨hq, hs1, htv1, hrnd⟩
          dsimp only at hq hs1 htv1 hrnd ⊢
          repeat' (first | (refine IsO ?_; first | refine JO_nil ?_ | (refine IsG ?_; refine G1 rfl rfl ?_) | (refine IsMove ?_; first | refine M1 rfl rfl rfl ?_ | refine M2 rfl rfl rfl ?_ | refine M4 rfl rfl rfl ?_) | (refine IsBin ?_; first | refine B1 rfl rfl rfl rfl ?_ | refine B3 rfl rfl rfl rfl ?_ | refine B5 rfl rfl rfl rfl ?_ | refine B6 rfl rfl rfl rfl ?_ | refine B9 rfl rfl rfl rfl rfl rfl rfl ?_) | (refine IsConv ?_; refine C1 rfl rfl rfl rfl rfl ?_) | (refine IsLoad ?_; first | refine L1 rfl rfl rfl rfl ?_ | refine L2 rfl rfl rfl rfl rfl ?_) | (refine IsStore ?_; refine S1 rfl rfl rfl rfl rfl rfl rfl (fun _ => ?_)) | (refine IsBox ?_; refine N1 rfl rfl rfl rfl (fun _ => ?_)) | (refine IsAlloc ?_; refine N2 rfl rfl rfl rfl (fun _ => ?_)) | refine V1 rfl rfl rfl ?_) | (refine IsAt ?_; first | (with_reducible first | refine T1 ?_ | refine T2 ?_ | refine T3 ?_ | refine T5 ?_ | refine T6 ?_) | ((with_reducible show At _ (PBlock _ _ (Exit.exit _)) _ _); refine At_block_hit ?_)) | (refine IsJ ?_; first | refine J_seq ?_ | refine J_region ?_ | refine J_skip ?_ | refine J_ret ?_ | refine J_exit ?_ | (refine IsCond ?_; first | refine J_cond_t rfl ?_ | refine J_cond_f rfl ?_ | refine K4 rfl ?_ | refine J_cb rfl (fun _ => ?_) (fun _ => ?_))))
          · refine J_block ?_
            repeat' (first | (refine IsO ?_; first | refine JO_nil ?_ | (refine IsG ?_; refine G1 rfl rfl ?_) | (refine IsMove ?_; first | refine M1 rfl rfl rfl ?_ | refine M2 rfl rfl rfl ?_ | refine M4 rfl rfl rfl ?_) | (refine IsBin ?_; first | refine B1 rfl rfl rfl rfl ?_ | refine B3 rfl rfl rfl rfl ?_ | refine B5 rfl rfl rfl rfl ?_ | refine B6 rfl rfl rfl rfl ?_ | refine B9 rfl rfl rfl rfl rfl rfl rfl ?_) | (refine IsConv ?_; refine C1 rfl rfl rfl rfl rfl ?_) | (refine IsLoad ?_; first | refine L1 rfl rfl rfl rfl ?_ | refine L2 rfl rfl rfl rfl rfl ?_) | (refine IsStore ?_; refine S1 rfl rfl rfl rfl rfl rfl rfl (fun _ => ?_)) | (refine IsBox ?_; refine N1 rfl rfl rfl rfl (fun _ => ?_)) | (refine IsAlloc ?_; refine N2 rfl rfl rfl rfl (fun _ => ?_)) | refine V1 rfl rfl rfl ?_) | (refine IsAt ?_; first | (with_reducible first | refine T1 ?_ | refine T2 ?_ | refine T3 ?_ | refine T5 ?_ | refine T6 ?_) | ((with_reducible show At _ (PBlock _ _ (Exit.exit _)) _ _); refine At_block_hit ?_)) | (refine IsJ ?_; first | refine J_seq ?_ | refine J_region ?_ | refine J_block ?_ | refine J_skip ?_ | refine J_ret ?_ | refine J_exit ?_ | (refine IsCond ?_; first | refine J_cond_t rfl ?_ | refine J_cond_f rfl ?_ | refine K4 rfl ?_ | refine J_cb rfl (fun _ => ?_) (fun _ => ?_))))
            rw [show ((q : Int) + (k : Int)) % (wk : Int) = (((q + k) % wk : Nat) : Int) by rw [Int.natCast_emod, Int.natCast_add]]
            refine JO_l (OL_call [0, 0, 0, 0, 0, 0, 0, 0, 0, 0, 0, 0, 0, 0] rfl rfl rfl (Step_run F hs1 (by omega) (Nat.mod_lt _ (by omega)) (by have := hs1.t0; constructor <;> omega)) rfl) rfl rfl ?_
            rintro _ _ ⟨_, ⟨s2, e, hs2, hnx, he, rfl, rfl⟩, rfl⟩
            have htv2 : s2.tv ≤ s1.tv + 1 := by
              rcases hnx with ⟨_, rfl⟩ | ⟨_, h2 | h2, _⟩ <;> omega
            repeat' (first | (refine IsO ?_; first | refine JO_nil ?_ | (refine IsG ?_; refine G1 rfl rfl ?_) | (refine IsMove ?_; first | refine M1 rfl rfl rfl ?_ | refine M2 rfl rfl rfl ?_ | refine M4 rfl rfl rfl ?_) | (refine IsBin ?_; first | refine B1 rfl rfl rfl rfl ?_ | refine B3 rfl rfl rfl rfl ?_ | refine B5 rfl rfl rfl rfl ?_ | refine B6 rfl rfl rfl rfl ?_ | refine B9 rfl rfl rfl rfl rfl rfl rfl ?_) | (refine IsConv ?_; refine C1 rfl rfl rfl rfl rfl ?_) | (refine IsLoad ?_; first | refine L1 rfl rfl rfl rfl ?_ | refine L2 rfl rfl rfl rfl rfl ?_) | (refine IsStore ?_; refine S1 rfl rfl rfl rfl rfl rfl rfl (fun _ => ?_)) | (refine IsBox ?_; refine N1 rfl rfl rfl rfl (fun _ => ?_)) | (refine IsAlloc ?_; refine N2 rfl rfl rfl rfl (fun _ => ?_)) | refine V1 rfl rfl rfl ?_) | (refine IsAt ?_; first | (with_reducible first | refine T1 ?_ | refine T2 ?_ | refine T3 ?_ | refine T5 ?_ | refine T6 ?_) | ((with_reducible show At _ (PBlock _ _ (Exit.exit _)) _ _); refine At_block_hit ?_)) | (refine IsJ ?_; first | refine J_seq ?_ | refine J_region ?_ | refine J_block ?_ | refine J_skip ?_ | refine J_ret ?_ | refine J_exit ?_ | (refine IsCond ?_; first | refine J_cond_t rfl ?_ | refine J_cond_f rfl ?_ | refine K4 rfl ?_ | refine J_cb rfl (fun _ => ?_) (fun _ => ?_))))
            exact At_round (q + 1, s2) (by show wk - (q + 1) < wk - q; omega) ⟨by show q + 1 ≤ wk; omega, hs2, by dsimp only; omega, hrnd.step hnx fun j ⟨i', hi', e⟩ => by
              by_cases e2 : i' = q
              · right; rw [e, e2]
              · exact .inl ⟨i', by dsimp only at hi'; omega, e⟩⟩ (by repeat (first | exact True.intro | refine And.intro rfl ?_)) (fun H hl => hl)
          · have hqe : q = wk := by omega
            have hd := hrnd.done hs1 (by omega) fun j hj => by
              obtain ⟨i', h1, h2⟩ := mod_cover (k := k) hj
              exact ⟨i', by omega, h2⟩
            exact At_round (k + 1, s1) (by show Bnd - (k + 1) < Bnd - k; omega) ⟨by show k + 1 ≤ Bnd; omega, hs1, by dsimp only; omega, hd.imp id fun h2 => by
              have := hov.resolve_left hno
              show k + 1 + RPhi T w nR ws os ms s1 < Bnd
              omega⟩ (by repeat (first | exact True.intro | refine And.intro rfl ?_)) (fun H hl => hl)
      · repeat' ((fail_if_success (with_reducible show J _ (Code.seq (Code.region 20 _ _) _) _ _ _)); first | (refine IsO ?_; first | refine JO_nil ?_ | (refine IsG ?_; refine G1 rfl rfl ?_) | (refine IsMove ?_; first | refine M1 rfl rfl rfl ?_ | refine M2 rfl rfl rfl ?_ | refine M4 rfl rfl rfl ?_) | (refine IsBin ?_; first | refine B1 rfl rfl rfl rfl ?_ | refine B3 rfl rfl rfl rfl ?_ | refine B5 rfl rfl rfl rfl ?_ | refine B6 rfl rfl rfl rfl ?_ | refine B9 rfl rfl rfl rfl rfl rfl rfl ?_) | (refine IsConv ?_; refine C1 rfl rfl rfl rfl rfl ?_) | (refine IsLoad ?_; first | refine L1 rfl rfl rfl rfl ?_ | refine L2 rfl rfl rfl rfl rfl ?_) | (refine IsStore ?_; refine S1 rfl rfl rfl rfl rfl rfl rfl (fun _ => ?_)) | (refine IsBox ?_; refine N1 rfl rfl rfl rfl (fun _ => ?_)) | (refine IsAlloc ?_; refine N2 rfl rfl rfl rfl (fun _ => ?_)) | refine V1 rfl rfl rfl ?_) | (refine IsAt ?_; first | (with_reducible first | refine T1 ?_ | refine T2 ?_ | refine T3 ?_ | refine T5 ?_ | refine T6 ?_) | ((with_reducible show At _ (PBlock _ _ (Exit.exit _)) _ _); refine At_block_hit ?_)) | (refine IsJ ?_; first | refine J_seq ?_ | refine J_region ?_ | refine J_block ?_ | refine J_skip ?_ | refine J_ret ?_ | refine J_exit ?_ | (refine IsCond ?_; first | refine J_cond_t rfl ?_ | refine J_cond_f rfl ?_ | refine K4 rfl ?_ | refine J_cb rfl (fun _ => ?_) (fun _ => ?_))))
        exact J_regs (by repeat (first | exact True.intro | refine And.intro rfl ?_)) (J_hp (fun H hl => hl.pick (is := [3, 3, 3, 3, 3, 0, 0, 0, 0, 0, 0, 0, 0, 0, 0, 0, 0, 0, 0]) rfl) (hT s ⟨hs, hov.resolve_right (by omega)⟩))
    rintro s ⟨hs, hov⟩
    repeat' (first | (refine IsO ?_; first | refine JO_nil ?_ | (refine IsG ?_; refine G1 rfl rfl ?_) | (refine IsMove ?_; first | refine M1 rfl rfl rfl ?_ | refine M2 rfl rfl rfl ?_ | refine M4 rfl rfl rfl ?_) | (refine IsBin ?_; first | refine B1 rfl rfl rfl rfl ?_ | refine B3 rfl rfl rfl rfl ?_ | refine B5 rfl rfl rfl rfl ?_ | refine B6 rfl rfl rfl rfl ?_ | refine B9 rfl rfl rfl rfl rfl rfl rfl ?_) | (refine IsConv ?_; refine C1 rfl rfl rfl rfl rfl ?_) | (refine IsLoad ?_; first | refine L1 rfl rfl rfl rfl ?_ | refine L2 rfl rfl rfl rfl rfl ?_) | (refine IsStore ?_; refine S1 rfl rfl rfl rfl rfl rfl rfl (fun _ => ?_)) | (refine IsBox ?_; refine N1 rfl rfl rfl rfl (fun _ => ?_)) | (refine IsAlloc ?_; refine N2 rfl rfl rfl rfl (fun _ => ?_)) | refine V1 rfl rfl rfl ?_) | (refine IsAt ?_; first | (with_reducible first | refine T1 ?_ | refine T2 ?_ | refine T3 ?_ | refine T5 ?_ | refine T6 ?_) | ((with_reducible show At _ (PBlock _ _ (Exit.exit _)) _ _); refine At_block_hit ?_)) | (refine IsJ ?_; first | refine J_seq ?_ | refine J_region ?_ | refine J_block ?_ | refine J_skip ?_ | refine J_ret ?_ | refine J_exit ?_ | (refine IsCond ?_; first | refine J_cond_t rfl ?_ | refine J_cond_f rfl ?_ | refine K4 rfl ?_ | refine J_cb rfl (fun _ => ?_) (fun _ => ?_))))
    refine JO_l (OL_call [0, 0, 0, 0, 0, 0, 0, 0, 0, 0, 0, 0, 0, 0] rfl rfl rfl (Heap_run F (by omega) hs hov) rfl) rfl rfl ?_
    rintro _ _ ⟨_, ⟨p', bw', bs', st', hHT, rfl, rfl⟩, rfl⟩
    repeat' (first | (refine IsO ?_; first | refine JO_nil ?_ | (refine IsG ?_; refine G1 rfl rfl ?_) | (refine IsMove ?_; first | refine M1 rfl rfl rfl ?_ | refine M2 rfl rfl rfl ?_ | refine M4 rfl rfl rfl ?_) | (refine IsBin ?_; first | refine B1 rfl rfl rfl rfl ?_ | refine B3 rfl rfl rfl rfl ?_ | refine B5 rfl rfl rfl rfl ?_ | refine B6 rfl rfl rfl rfl ?_ | refine B9 rfl rfl rfl rfl rfl rfl rfl ?_) | (refine IsConv ?_; refine C1 rfl rfl rfl rfl rfl ?_) | (refine IsLoad ?_; first | refine L1 rfl rfl rfl rfl ?_ | refine L2 rfl rfl rfl rfl rfl ?_) | (refine IsStore ?_; refine S1 rfl rfl rfl rfl rfl rfl rfl (fun _ => ?_)) | (refine IsBox ?_; refine N1 rfl rfl rfl rfl (fun _ => ?_)) | (refine IsAlloc ?_; refine N2 rfl rfl rfl rfl (fun _ => ?_)) | refine V1 rfl rfl rfl ?_) | (refine IsAt ?_; first | (with_reducible first | refine T1 ?_ | refine T2 ?_ | refine T3 ?_ | refine T5 ?_ | refine T6 ?_) | ((with_reducible show At _ (PBlock _ _ (Exit.exit _)) _ _); refine At_block_hit ?_)) | (refine IsJ ?_; first | refine J_seq ?_ | refine J_region ?_ | refine J_block ?_ | refine J_skip ?_ | refine J_ret ?_ | refine J_exit ?_ | (refine IsCond ?_; first | refine J_cond_t rfl ?_ | refine J_cond_f rfl ?_ | refine K4 rfl ?_ | refine J_cb rfl (fun _ => ?_) (fun _ => ?_))))
    have hM2 : Does Try.prog 23 [ptr p' 0] (heapL p' bw' bs' n (NWI T ws ms os) (szL (lvs ms os)) st') _ := heapWords hHT.wl hHT.nb
    refine JO_l (OL_call [0, 0, 0] rfl rfl rfl hM2 rfl) rfl rfl ?_
    rintro _ _ ⟨_, ⟨aa, cc, hna, rfl, rfl⟩, rfl⟩
    repeat' (first | (refine IsO ?_; first | refine JO_nil ?_ | (refine IsG ?_; refine G1 rfl rfl ?_) | (refine IsMove ?_; first | refine M1 rfl rfl rfl ?_ | refine M2 rfl rfl rfl ?_ | refine M4 rfl rfl rfl ?_) | (refine IsBin ?_; first | refine B1 rfl rfl rfl rfl ?_ | refine B3 rfl rfl rfl rfl ?_ | refine B5 rfl rfl rfl rfl ?_ | refine B6 rfl rfl rfl rfl ?_ | refine B9 rfl rfl rfl rfl rfl rfl rfl ?_) | (refine IsConv ?_; refine C1 rfl rfl rfl rfl rfl ?_) | (refine IsLoad ?_; first | refine L1 rfl rfl rfl rfl ?_ | refine L2 rfl rfl rfl rfl rfl ?_) | (refine IsStore ?_; refine S1 rfl rfl rfl rfl rfl rfl rfl (fun _ => ?_)) | (refine IsBox ?_; refine N1 rfl rfl rfl rfl (fun _ => ?_)) | (refine IsAlloc ?_; refine N2 rfl rfl rfl rfl (fun _ => ?_)) | refine V1 rfl rfl rfl ?_) | (refine IsAt ?_; first | (with_reducible first | refine T1 ?_ | refine T2 ?_ | refine T3 ?_ | refine T5 ?_ | refine T6 ?_) | ((with_reducible show At _ (PBlock _ _ (Exit.exit _)) _ _); refine At_block_hit ?_)) | (refine IsJ ?_; first | refine J_seq ?_ | refine J_region ?_ | refine J_block ?_ | refine J_skip ?_ | refine J_ret ?_ | refine J_exit ?_ | (refine IsCond ?_; first | refine J_cond_t rfl ?_ | refine J_cond_f rfl ?_ | refine K4 rfl ?_ | refine J_cb rfl (fun _ => ?_) (fun _ => ?_))))
    refine JO_l (OL_call [1, 1, 1] rfl rfl rfl heapTop rfl) rfl rfl ?_
    rintro _ _ ⟨_, ⟨rfl, rfl⟩, rfl⟩
    repeat' (first | (refine IsO ?_; first | refine JO_nil ?_ | (refine IsG ?_; refine G1 rfl rfl ?_) | (refine IsMove ?_; first | refine M1 rfl rfl rfl ?_ | refine M2 rfl rfl rfl ?_ | refine M4 rfl rfl rfl ?_) | (refine IsBin ?_; first | refine B1 rfl rfl rfl rfl ?_ | refine B3 rfl rfl rfl rfl ?_ | refine B5 rfl rfl rfl rfl ?_ | refine B6 rfl rfl rfl rfl ?_ | refine B9 rfl rfl rfl rfl rfl rfl rfl ?_) | (refine IsConv ?_; refine C1 rfl rfl rfl rfl rfl ?_) | (refine IsLoad ?_; first | refine L1 rfl rfl rfl rfl ?_ | refine L2 rfl rfl rfl rfl rfl ?_) | (refine IsStore ?_; refine S1 rfl rfl rfl rfl rfl rfl rfl (fun _ => ?_)) | (refine IsBox ?_; refine N1 rfl rfl rfl rfl (fun _ => ?_)) | (refine IsAlloc ?_; refine N2 rfl rfl rfl rfl (fun _ => ?_)) | refine V1 rfl rfl rfl ?_) | (refine IsAt ?_; first | (with_reducible first | refine T1 ?_ | refine T2 ?_ | refine T3 ?_ | refine T5 ?_ | refine T6 ?_) | ((with_reducible show At _ (PBlock _ _ (Exit.exit _)) _ _); refine At_block_hit ?_)) | (refine IsJ ?_; first | refine J_seq ?_ | refine J_region ?_ | refine J_block ?_ | refine J_skip ?_ | refine J_ret ?_ | refine J_exit ?_ | (refine IsCond ?_; first | refine J_cond_t rfl ?_ | refine J_cond_f rfl ?_ | refine K4 rfl ?_ | refine J_cb rfl (fun _ => ?_) (fun _ => ?_))))
    refine JO_l (OL_buildSlice (cs := [.int .i64 ((szL (lvs ms os) : Nat) : Int)]) rfl rfl rfl rfl rfl rfl rfl rfl) rfl rfl ?_
    rintro _ _ ⟨bb, rfl, rfl⟩
    refine JO_l (OL_append (i := 4) rfl rfl rfl rfl rfl rfl ((Reads.blk rfl).src (.head _)) rfl rfl (fun _ h => by cases h) (by omega) (by omega) (by decide)) rfl rfl ?_
    rintro _ _ ⟨a', cap', rfl, rfl⟩
    refine JO_val (OV_idxA (off := i) rfl rfl rfl rfl (by omega) (by omega) (by simp)) rfl rfl ?_
    have hVt : intsV (V2.take (n + 1)) = intsV (NWI T ws ms os) ++ [.int .i64 ((szL (lvs ms os) : Nat) : Int)] := by
      rw [← hVl, List.take_length, hV2]; simp [intsV]
    rcases (by omega : i = 0 ∨ i = 1) with rfl | rfl
    · refine JO_l0 (OL_store rfl rfl rfl rfl rfl rfl (i := 19) rfl (by rfl)) rfl ?_
      rintro _ _ rfl
      repeat' (first | (refine IsO ?_; first | refine JO_nil ?_ | (refine IsG ?_; refine G1 rfl rfl ?_) | (refine IsMove ?_; first | refine M1 rfl rfl rfl ?_ | refine M2 rfl rfl rfl ?_ | refine M4 rfl rfl rfl ?_) | (refine IsBin ?_; first | refine B1 rfl rfl rfl rfl ?_ | refine B3 rfl rfl rfl rfl ?_ | refine B5 rfl rfl rfl rfl ?_ | refine B6 rfl rfl rfl rfl ?_ | refine B9 rfl rfl rfl rfl rfl rfl rfl ?_) | (refine IsConv ?_; refine C1 rfl rfl rfl rfl rfl ?_) | (refine IsLoad ?_; first | refine L1 rfl rfl rfl rfl ?_ | refine L2 rfl rfl rfl rfl rfl ?_) | (refine IsStore ?_; refine S1 rfl rfl rfl rfl rfl rfl rfl (fun _ => ?_)) | (refine IsBox ?_; refine N1 rfl rfl rfl rfl (fun _ => ?_)) | (refine IsAlloc ?_; refine N2 rfl rfl rfl rfl (fun _ => ?_)) | refine V1 rfl rfl rfl ?_) | (refine IsAt ?_; first | (with_reducible first | refine T1 ?_ | refine T2 ?_ | refine T3 ?_ | refine T5 ?_ | refine T6 ?_) | ((with_reducible show At _ (PBlock _ _ (Exit.exit _)) _ _); refine At_block_hit ?_)) | (refine IsJ ?_; first | refine J_seq ?_ | refine J_region ?_ | refine J_block ?_ | refine J_skip ?_ | refine J_ret ?_ | refine J_exit ?_ | (refine IsCond ?_; first | refine J_cond_t rfl ?_ | refine J_cond_f rfl ?_ | refine K4 rfl ?_ | refine J_cb rfl (fun _ => ?_) (fun _ => ?_))))
      refine At_round (1, (a', n + 1, cap'), (a1, m1, c1)) (by show 2 - 1 < 2 - 0; decide) ⟨by show 1 ≤ 2; decide, fun _ => rfl, fun e => by cases e⟩ (by repeat (first | exact True.intro | refine And.intro rfl ?_)) (fun H hl => ?_)
      dsimp only
      rw [hVt]
      exact (rowz_row (hl.pick (l := _) (is := [1, 0, 9, 9, 9, 10, 10, 14, 14, 14]) rfl)).pick (is := [2, 2, 2, 2, 2, 1, 0, 0, 0, 0]) rfl
    · refine JO_l0 (OL_store rfl rfl rfl rfl rfl rfl (i := 19) rfl (by rfl)) rfl ?_
      rintro _ _ rfl
      repeat' (first | (refine IsO ?_; first | refine JO_nil ?_ | (refine IsG ?_; refine G1 rfl rfl ?_) | (refine IsMove ?_; first | refine M1 rfl rfl rfl ?_ | refine M2 rfl rfl rfl ?_ | refine M4 rfl rfl rfl ?_) | (refine IsBin ?_; first | refine B1 rfl rfl rfl rfl ?_ | refine B3 rfl rfl rfl rfl ?_ | refine B5 rfl rfl rfl rfl ?_ | refine B6 rfl rfl rfl rfl ?_ | refine B9 rfl rfl rfl rfl rfl rfl rfl ?_) | (refine IsConv ?_; refine C1 rfl rfl rfl rfl rfl ?_) | (refine IsLoad ?_; first | refine L1 rfl rfl rfl rfl ?_ | refine L2 rfl rfl rfl rfl rfl ?_) | (refine IsStore ?_; refine S1 rfl rfl rfl rfl rfl rfl rfl (fun _ => ?_)) | (refine IsBox ?_; refine N1 rfl rfl rfl rfl (fun _ => ?_)) | (refine IsAlloc ?_; refine N2 rfl rfl rfl rfl (fun _ => ?_)) | refine V1 rfl rfl rfl ?_) | (refine IsAt ?_; first | (with_reducible first | refine T1 ?_ | refine T2 ?_ | refine T3 ?_ | refine T5 ?_ | refine T6 ?_) | ((with_reducible show At _ (PBlock _ _ (Exit.exit _)) _ _); refine At_block_hit ?_)) | (refine IsJ ?_; first | refine J_seq ?_ | refine J_region ?_ | refine J_block ?_ | refine J_skip ?_ | refine J_ret ?_ | refine J_exit ?_ | (refine IsCond ?_; first | refine J_cond_t rfl ?_ | refine J_cond_f rfl ?_ | refine K4 rfl ?_ | refine J_cb rfl (fun _ => ?_) (fun _ => ?_))))
      refine At_round (2, (a0, m0, c0), (a', n + 1, cap')) (by show 2 - 2 < 2 - 1; decide) ⟨by show 2 ≤ 2; decide, fun _ => hm0 (by decide), fun _ => rfl⟩ (by repeat (first | exact True.intro | refine And.intro rfl ?_)) (fun H hl => ?_)
      dsimp only
      rw [hVt]
      exact (rowz_row (hl.pick (l := _) (is := [1, 0, 9, 9, 9, 10, 10, 13, 14, 14]) rfl)).pick (is := [2, 2, 2, 2, 2, 1, 1, 0, 0, 0]) rfl
  · obtain rfl : i = 2 := by omega
    obtain rfl : m0 = n + 1 := hm0 (by decide)
    obtain rfl : m1 = n + 1 := hm1 rfl
    refine JO_fact _ (fun w hs => rowz_len (T := 3) (sz := 1) (m := n + 1) (cap := c0) (a := a0) (cs := intsV (V2.take (n + 1))) hs (by simp)) ?_
    rintro ⟨hl0, hn0, hc0⟩
    refine JO_fact _ (fun w hs => rowz_len (T := 3) (sz := 1) (m := n + 1) (cap := c1) (a := a1) (cs := intsV (V2.take (n + 1))) hs (by simp)) ?_
    rintro ⟨hl1, hn1, hc1⟩
    have hR0 : Reads (rowz 3 1 a0 (n + 1) c0 (intsV (V2.take (n + 1)))) 1 (n + 1) a0 c0 (intsV (V2.take (n + 1))) := Reads.rowz hl0 hn0
    have hR1 : Reads (rowz 3 1 a1 (n + 1) c1 (intsV (V2.take (n + 1)))) 1 (n + 1) a1 c1 (intsV (V2.take (n + 1))) := Reads.rowz hl1 hn1
    refine JO_fact _ (fun w hs => hR0.some (by omega) hs (by simp)) ?_
    rintro ⟨r0, q0, rfl⟩
    refine JO_fact _ (fun w hs => hR1.some (by omega) hs (by simp)) ?_
    rintro ⟨r1, q1, rfl⟩
    refine JO_val (OV_idxA (off := 0) rfl rfl rfl rfl (by omega) (by decide) (by rfl)) rfl rfl ?_
    repeat' (first | (refine IsO ?_; first | refine JO_nil ?_ | (refine IsG ?_; refine G1 rfl rfl ?_) | (refine IsMove ?_; first | refine M1 rfl rfl rfl ?_ | refine M2 rfl rfl rfl ?_ | refine M4 rfl rfl rfl ?_) | (refine IsBin ?_; first | refine B1 rfl rfl rfl rfl ?_ | refine B3 rfl rfl rfl rfl ?_ | refine B5 rfl rfl rfl rfl ?_ | refine B6 rfl rfl rfl rfl ?_ | refine B9 rfl rfl rfl rfl rfl rfl rfl ?_) | (refine IsConv ?_; refine C1 rfl rfl rfl rfl rfl ?_) | (refine IsLoad ?_; first | refine L1 rfl rfl rfl rfl ?_ | refine L2 rfl rfl rfl rfl rfl ?_) | (refine IsStore ?_; refine S1 rfl rfl rfl rfl rfl rfl rfl (fun _ => ?_)) | (refine IsBox ?_; refine N1 rfl rfl rfl rfl (fun _ => ?_)) | (refine IsAlloc ?_; refine N2 rfl rfl rfl rfl (fun _ => ?_)) | refine V1 rfl rfl rfl ?_) | (refine IsAt ?_; first | (with_reducible first | refine T1 ?_ | refine T2 ?_ | refine T3 ?_ | refine T5 ?_ | refine T6 ?_) | ((with_reducible show At _ (PBlock _ _ (Exit.exit _)) _ _); refine At_block_hit ?_)) | (refine IsJ ?_; first | refine J_seq ?_ | refine J_region ?_ | refine J_block ?_ | refine J_skip ?_ | refine J_ret ?_ | refine J_exit ?_ | (refine IsCond ?_; first | refine J_cond_t rfl ?_ | refine J_cond_f rfl ?_ | refine K4 rfl ?_ | refine J_cb rfl (fun _ => ?_) (fun _ => ?_))))
    refine J_loop (α := Nat) (fun k => k ≤ n + 1) (fun k => [(10, ptr b10 0), (112, .int .i64 ((n + 1 : Nat) : Int)), (113, .int .i64 k)])
      (fun k => [blk b10 [.slice (some ⟨r0, q0, none⟩) (n + 1) c0, .slice (some ⟨r1, q1, none⟩) (n + 1) c1] 60, rowz 3 1 (some ⟨r0, q0, none⟩) (n + 1) c0 (intsV (V2.take (n + 1))), rowz 3 1 (some ⟨r1, q1, none⟩) (n + 1) c1 (intsV (V2.take (n + 1))), Low W0])
      (fun k => n + 1 - k) 0 (Nat.zero_le _) (by repeat (first | exact True.intro | refine And.intro rfl ?_)) (fun H hl => hl.pick (is := [5, 5, 5, 6]) rfl) ?_
    intro k hk
    repeat' (first | (refine IsO ?_; first | refine JO_nil ?_ | (refine IsG ?_; refine G1 rfl rfl ?_) | (refine IsMove ?_; first | refine M1 rfl rfl rfl ?_ | refine M2 rfl rfl rfl ?_ | refine M4 rfl rfl rfl ?_) | (refine IsBin ?_; first | refine B1 rfl rfl rfl rfl ?_ | refine B3 rfl rfl rfl rfl ?_ | refine B5 rfl rfl rfl rfl ?_ | refine B6 rfl rfl rfl rfl ?_ | refine B9 rfl rfl rfl rfl rfl rfl rfl ?_) | (refine IsConv ?_; refine C1 rfl rfl rfl rfl rfl ?_) | (refine IsLoad ?_; first | refine L1 rfl rfl rfl rfl ?_ | refine L2 rfl rfl rfl rfl rfl ?_) | (refine IsStore ?_; refine S1 rfl rfl rfl rfl rfl rfl rfl (fun _ => ?_)) | (refine IsBox ?_; refine N1 rfl rfl rfl rfl (fun _ => ?_)) | (refine IsAlloc ?_; refine N2 rfl rfl rfl rfl (fun _ => ?_)) | refine V1 rfl rfl rfl ?_) | (refine IsAt ?_; first | (with_reducible first | refine T1 ?_ | refine T2 ?_ | refine T3 ?_ | refine T5 ?_ | refine T6 ?_) | ((with_reducible show At _ (PBlock _ _ (Exit.exit _)) _ _); refine At_block_hit ?_)) | (refine IsJ ?_; first | refine J_seq ?_ | refine J_region ?_ | refine J_skip ?_ | refine J_ret ?_ | refine J_exit ?_ | (refine IsCond ?_; first | refine J_cond_t rfl ?_ | refine J_cond_f rfl ?_ | refine K4 rfl ?_ | refine J_cb rfl (fun _ => ?_) (fun _ => ?_))))
    · rename_i hlt2
      refine J_block ?_
      obtain ⟨y, hy⟩ : ∃ y, V2[k]? = some y := ⟨V2[k]'(by omega), List.getElem?_eq_getElem _⟩
      have hyV : (intsV (V2.take (n + 1)))[k]? = some (.int .i64 y) := by
        rw [← hVl, List.take_length]; simp [intsV, hy]
      repeat' (first | (refine IsO ?_; first | refine JO_nil ?_ | (refine IsG ?_; refine G1 rfl rfl ?_) | (refine IsMove ?_; first | refine M1 rfl rfl rfl ?_ | refine M2 rfl rfl rfl ?_ | refine M4 rfl rfl rfl ?_) | (refine IsBin ?_; first | refine B1 rfl rfl rfl rfl ?_ | refine B3 rfl rfl rfl rfl ?_ | refine B5 rfl rfl rfl rfl ?_ | refine B6 rfl rfl rfl rfl ?_ | refine B9 rfl rfl rfl rfl rfl rfl rfl ?_) | (refine IsConv ?_; refine C1 rfl rfl rfl rfl rfl ?_) | (refine IsLoad ?_; first | refine L1 rfl rfl rfl rfl ?_ | refine L2 rfl rfl rfl rfl rfl ?_) | (refine IsStore ?_; refine S1 rfl rfl rfl rfl rfl rfl rfl (fun _ => ?_)) | (refine IsBox ?_; refine N1 rfl rfl rfl rfl (fun _ => ?_)) | (refine IsAlloc ?_; refine N2 rfl rfl rfl rfl (fun _ => ?_)) | refine V1 rfl rfl rfl ?_) | (refine IsAt ?_; first | (with_reducible first | refine T1 ?_ | refine T2 ?_ | refine T3 ?_ | refine T5 ?_ | refine T6 ?_) | ((with_reducible show At _ (PBlock _ _ (Exit.exit _)) _ _); refine At_block_hit ?_)) | (refine IsJ ?_; first | refine J_seq ?_ | refine J_region ?_ | refine J_block ?_ | refine J_skip ?_ | refine J_ret ?_ | refine J_exit ?_ | (refine IsCond ?_; first | refine J_cond_t rfl ?_ | refine J_cond_f rfl ?_ | refine K4 rfl ?_ | refine J_cb rfl (fun _ => ?_) (fun _ => ?_))))
      refine J_draw [0, 1, 0, 0, 1, 0, 1, 0, 0, 1, 0] (List.range 11) (by kernel_rfl) (by kernel_rfl) ?_
      refine JX_val rfl rfl (OV_idxA (off := 0) rfl rfl rfl rfl (by omega) (by decide) (by rfl)) rfl rfl ?_
      repeat' (refine IsX ?_; first | (refine JX_nil ?_; refine At_np ?_) | (refine JX_op rfl ?_; refine XsO ?_; first | (refine XsLoad ?_; refine XL1 rfl rfl rfl rfl rfl ?_) | refine XV1 rfl rfl rfl rfl ?_))
      refine JX_val rfl rfl (OV_idx (off := q0 + k) rfl rfl rfl rfl (by omega) (by omega) (by simp)) rfl rfl ?_
      refine JX_q rfl rfl (OQ_read (i := k) (v := .int .i64 y) hR0 (by simp) rfl rfl (by omega) hyV) rfl rfl ?_
      refine JX_val rfl rfl (OV_idxA (off := 1) rfl rfl rfl rfl (by omega) (by decide) (by rfl)) rfl rfl ?_
      repeat' (refine IsX ?_; first | (refine JX_nil ?_; refine At_np ?_) | (refine JX_op rfl ?_; refine XsO ?_; first | (refine XsLoad ?_; refine XL1 rfl rfl rfl rfl rfl ?_) | refine XV1 rfl rfl rfl rfl ?_))
      refine JX_val rfl rfl (OV_idx (off := q1 + k) rfl rfl rfl rfl (by omega) (by omega) (by simp)) rfl rfl ?_
      refine JX_q rfl rfl (OQ_read (i := k) (v := .int .i64 y) hR1 (by simp) rfl rfl (by omega) hyV) rfl rfl ?_
      repeat' (refine IsX ?_; first | (refine JX_nil ?_; refine At_np ?_) | (refine JX_op rfl ?_; refine XsO ?_; first | (refine XsLoad ?_; refine XL1 rfl rfl rfl rfl rfl ?_) | refine XV1 rfl rfl rfl rfl ?_))
      repeat' (first | (refine IsO ?_; first | refine JO_nil ?_ | (refine IsG ?_; refine G1 rfl rfl ?_) | (refine IsMove ?_; first | refine M1 rfl rfl rfl ?_ | refine M2 rfl rfl rfl ?_ | refine M4 rfl rfl rfl ?_) | (refine IsBin ?_; first | refine B1 rfl rfl rfl rfl ?_ | refine B3 rfl rfl rfl rfl ?_ | refine B5 rfl rfl rfl rfl ?_ | refine B6 rfl rfl rfl rfl ?_ | refine B9 rfl rfl rfl rfl rfl rfl rfl ?_) | (refine IsConv ?_; refine C1 rfl rfl rfl rfl rfl ?_) | (refine IsLoad ?_; first | refine L1 rfl rfl rfl rfl ?_ | refine L2 rfl rfl rfl rfl rfl ?_) | (refine IsStore ?_; refine S1 rfl rfl rfl rfl rfl rfl rfl (fun _ => ?_)) | (refine IsBox ?_; refine N1 rfl rfl rfl rfl (fun _ => ?_)) | (refine IsAlloc ?_; refine N2 rfl rfl rfl rfl (fun _ => ?_)) | refine V1 rfl rfl rfl ?_) | (refine IsAt ?_; first | (with_reducible first | refine T1 ?_ | refine T2 ?_ | refine T3 ?_ | refine T5 ?_ | refine T6 ?_) | ((with_reducible show At _ (PBlock _ _ (Exit.exit _)) _ _); refine At_block_hit ?_)) | (refine IsJ ?_; first | refine J_seq ?_ | refine J_region ?_ | refine J_block ?_ | refine J_skip ?_ | refine J_ret ?_ | refine J_exit ?_ | (refine IsCond ?_; first | refine J_cond_t rfl ?_ | refine J_cond_f rfl ?_ | refine K4 rfl ?_ | refine J_cb rfl (fun _ => ?_) (fun _ => ?_))))
      exact At_round (k + 1) (by show n + 1 - (k + 1) < n + 1 - k; omega) (by show k + 1 ≤ n + 1; omega) (by repeat (first | exact True.intro | refine And.intro rfl ?_)) (fun H hl => hl)
    · refine JO_val (OV_idxA (off := 0) rfl rfl rfl rfl (by omega) (by decide) (by rfl)) rfl rfl ?_
      repeat' (first | (refine IsO ?_; first | refine JO_nil ?_ | (refine IsG ?_; refine G1 rfl rfl ?_) | (refine IsMove ?_; first | refine M1 rfl rfl rfl ?_ | refine M2 rfl rfl rfl ?_ | refine M4 rfl rfl rfl ?_) | (refine IsBin ?_; first | refine B1 rfl rfl rfl rfl ?_ | refine B3 rfl rfl rfl rfl ?_ | refine B5 rfl rfl rfl rfl ?_ | refine B6 rfl rfl rfl rfl ?_ | refine B9 rfl rfl rfl rfl rfl rfl rfl ?_) | (refine IsConv ?_; refine C1 rfl rfl rfl rfl rfl ?_) | (refine IsLoad ?_; first | refine L1 rfl rfl rfl rfl ?_ | refine L2 rfl rfl rfl rfl rfl ?_) | (refine IsStore ?_; refine S1 rfl rfl rfl rfl rfl rfl rfl (fun _ => ?_)) | (refine IsBox ?_; refine N1 rfl rfl rfl rfl (fun _ => ?_)) | (refine IsAlloc ?_; refine N2 rfl rfl rfl rfl (fun _ => ?_)) | refine V1 rfl rfl rfl ?_) | (refine IsAt ?_; first | (with_reducible first | refine T1 ?_ | refine T2 ?_ | refine T3 ?_ | refine T5 ?_ | refine T6 ?_) | ((with_reducible show At _ (PBlock _ _ (Exit.exit _)) _ _); refine At_block_hit ?_)) | (refine IsJ ?_; first | refine J_seq ?_ | refine J_region ?_ | refine J_block ?_ | refine J_skip ?_ | refine J_ret ?_ | refine J_exit ?_ | (refine IsCond ?_; first | refine J_cond_t rfl ?_ | refine J_cond_f rfl ?_ | refine K4 rfl ?_ | refine J_cb rfl (fun _ => ?_) (fun _ => ?_))))
      refine JO_val (OV_idxA (off := 1) rfl rfl rfl rfl (by omega) (by decide) (by rfl)) rfl rfl ?_
      repeat' (first | (refine IsO ?_; first | refine JO_nil ?_ | (refine IsG ?_; refine G1 rfl rfl ?_) | (refine IsMove ?_; first | refine M1 rfl rfl rfl ?_ | refine M2 rfl rfl rfl ?_ | refine M4 rfl rfl rfl ?_) | (refine IsBin ?_; first | refine B1 rfl rfl rfl rfl ?_ | refine B3 rfl rfl rfl rfl ?_ | refine B5 rfl rfl rfl rfl ?_ | refine B6 rfl rfl rfl rfl ?_ | refine B9 rfl rfl rfl rfl rfl rfl rfl ?_) | (refine IsConv ?_; refine C1 rfl rfl rfl rfl rfl ?_) | (refine IsLoad ?_; first | refine L1 rfl rfl rfl rfl ?_ | refine L2 rfl rfl rfl rfl rfl ?_) | (refine IsStore ?_; refine S1 rfl rfl rfl rfl rfl rfl rfl (fun _ => ?_)) | (refine IsBox ?_; refine N1 rfl rfl rfl rfl (fun _ => ?_)) | (refine IsAlloc ?_; refine N2 rfl rfl rfl rfl (fun _ => ?_)) | refine V1 rfl rfl rfl ?_) | (refine IsAt ?_; first | (with_reducible first | refine T1 ?_ | refine T2 ?_ | refine T3 ?_ | refine T5 ?_ | refine T6 ?_) | ((with_reducible show At _ (PBlock _ _ (Exit.exit _)) _ _); refine At_block_hit ?_)) | (refine IsJ ?_; first | refine J_seq ?_ | refine J_region ?_ | refine J_block ?_ | refine J_skip ?_ | refine J_ret ?_ | refine J_exit ?_ | (refine IsCond ?_; first | refine J_cond_t rfl ?_ | refine J_cond_f rfl ?_ | refine K4 rfl ?_ | refine J_cb rfl (fun _ => ?_) (fun _ => ?_))))
      exact At_ret rfl rfl (.tmp rfl .nil) rfl (is := [3]) rfl ⟨by simp [retV], rfl⟩
end Go.Proofs.Ytahfnbpbdnmggaa
