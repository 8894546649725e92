/-
  Our own: what the claims of Zw share, 5 of 5: Sia Sig Sih Sib Srf Sif Swh LaSj LaSw.
-/
import Derived.Test.YtahfnbpbdnmggaaZw4
import Derived.RangeFuncStops
import Derived.RangeFuncLeaves
import Derived.LoopNIn
import Derived.Laws.StructEq
import Derived.Tactics
import Derived.Laws.Slices
import Derived.Deep.Quiet
import Derived.IntWalk
import Derived.Shelf.Abstract
import Derived.Laws.Entries
import Derived.Laws.Rows
import Derived.Below
import Derived.TacticsIn
import Derived.OrdersIn
import Derived.KernelRfl
import Derived.Test.YtahfnbpbdnmggaaProg
import Derived.ChangeArms
import Derived.WalkKit
import Derived.ProofKit
import Derived.OpenShut
import Derived.ChangeOld
import Derived.SizedLaws
import Derived.Carry
import Derived.Lib.SmallJoins
import Derived.Laws.Shifts
import Derived.Laws.Bits64b
/-
  Our own: what comes of a sliding is a heap; slider.Heap.
-/
set_option linter.unusedVariables false
set_option linter.unusedSimpArgs false
namespace Go.Proofs.Ytahfnbpbdnmggaa
open Go.Sep
theorem ofF_ch {ws : List Int} {T : Nat} : ∀ {os : List RO} {i f : Nat} {st : List Bool}, Ch ws i os T → T < i + f → ∃ st', ofF ws T f i st = some st'
  | [], i, f, st, h, hf => by
    obtain ⟨g, rfl⟩ : ∃ g, f = g + 1 := ⟨f - 1, by have : i = T := h; omega⟩
    have : ¬ i < T := by have : i = T := h; omega
    exact ⟨st, by simp only [ofF, this, if_false]⟩
  | o :: r, i, f, st, h, hf => by
    obtain ⟨h1, h2, h3, h4, h5⟩ := h
    have hle := h5.le
    obtain ⟨g, rfl⟩ : ∃ g, f = g + 1 := ⟨f - 1, by omega⟩
    obtain ⟨u0, u1, u2, u3, u4⟩ := packI_un h2
    obtain ⟨st', hst⟩ := ofF_ch (f := g) (st := st.set i true) h5 (by omega)
    refine ⟨st', ?_⟩
    have hlt : i < T := by omega
    simp only [ofF, hlt, if_true, h3, u1, u3, Int.toNat_natCast, true_and, hle]
    exact hst
section nw
variable {n T : Nat} {ws : List Int} {st : List Bool} {os : List RO} {ms : List Nat}
/-- One slid object more. -/
theorem slide_step (hc : Ch ws 0 os T) {os' : List RO} {q : Nat} {o : RO} (h : Ch (NWI T ws ms os) 0 os' (goI ms os q)) (ho : os[q]? = some o) (hl : lvB ms o = true) (wa : Option Addr) (wc : Nat) :
    Ch (NWI T ws ms os) 0 (os' ++ [⟨goI ms os q, o.k, o.p, fwL ms os o, wa, wc⟩]) (goI ms os (q + 1)) := by
  have hat := (hc.at ho).2
  have h1 := goI_succ (ms := ms) ho
  rw [hl, if_pos rfl] at h1
  have h2 := h.snoc (o := ⟨goI ms os q, o.k, o.p, fwL ms os o, wa, wc⟩) rfl (by dsimp only; rw [fwL_len]; exact hat.2.1) (by
    have := NWI_obj (T := T) (ws := ws) ho hl (t := 0) (by omega)
    dsimp only
    rw [fwL_len]
    rw [Nat.add_zero] at this
    rw [this]; rfl) (fun t ht => by
    dsimp only at ht ⊢
    rw [fwL_len] at ht
    have := NWI_obj (T := T) (ws := ws) ho hl (t := t + 1) (by omega)
    rw [show goI ms os q + 1 + t = goI ms os q + (t + 1) by omega, this]
    rfl)
  dsimp only at h2
  rw [fwL_len] at h2
  rw [show goI ms os (q + 1) = goI ms os q + 1 + o.ws.length by omega]
  exact h2
theorem goI_dead {q : Nat} {o : RO} (ho : os[q]? = some o) (hl : lvB ms o = false) : goI ms os (q + 1) = goI ms os q := by
  have h1 := goI_succ (ms := ms) ho
  rw [hl] at h1
  simpa using h1
theorem goI_all {ms : List Nat} {os : List RO} : goI ms os os.length = szL (lvs ms os) := by unfold goI; rw [List.take_length]
theorem NWI_ch (hc : Ch ws 0 os T) : ∃ os', Ch (NWI T ws ms os) 0 os' (szL (lvs ms os)) := by
  have : ∀ q, q ≤ os.length → ∃ os', Ch (NWI T ws ms os) 0 os' (goI ms os q) := by
    intro q
    induction q with
    | zero => intro _; exact ⟨[], rfl⟩
    | succ q ih =>
      intro hq
      obtain ⟨os', h⟩ := ih (by omega)
      have ho : os[q]? = some os[q] := List.getElem?_eq_getElem _
      cases hl : lvB ms os[q] with
      | true => exact ⟨_, slide_step hc h ho hl none 0⟩
      | false => exact ⟨os', by rw [goI_dead ho hl]; exact h⟩
  have := this os.length (Nat.le_refl _)
  rw [goI_all] at this
  exact this
theorem fwI_64 (h : HT n T ws st) (hc : Ch ws 0 os T) (z : Int) : In64 (fwI ms os z) := by
  have htn := h.tn
  have hnb := h.nb
  have hs := hc.sz
  unfold fwI
  split
  · rename_i j _
    have := goI_bd (ms := ms) (os := os) (q := j)
    unfold In64; omega
  · unfold In64; decide
theorem NWI_64 (h : HT n T ws st) (hc : Ch ws 0 os T) : ∀ y ∈ NWI T ws ms os, In64 y := by
  intro y hy
  unfold NWI at hy
  rcases List.mem_append.1 hy with hy | hy
  · obtain ⟨o, ho, hy⟩ := List.mem_flatMap.1 hy
    obtain ⟨j, hj⟩ := List.getElem?_of_mem (List.mem_filter.1 ho).1
    have hat := (hc.at hj).2
    unfold nwO at hy
    rcases List.mem_cons.1 hy with rfl | hy
    · exact (packI_un hat.2.1).1
    · unfold fwL at hy
      obtain ⟨t, ht, rfl⟩ := List.mem_map.1 hy
      have ht := List.mem_range.1 ht
      split
      · exact fwI_64 h hc _
      · rw [List.getD_eq_getElem?_getD, List.getElem?_eq_getElem ht]
        exact Ch.mem64 h hc (List.mem_of_getElem? hj) (List.getElem?_eq_getElem ht)
  · rcases List.mem_append.1 hy with hy | hy
    · rw [List.eq_of_mem_replicate hy]; unfold In64; decide
    · exact h.w64 y (List.mem_of_mem_drop hy)
end nw
section ops
variable {ps pf p bw bs pm bm bst bf n T w nR pw bw2 pz bz wc : Nat} {wa : Option Addr} {mv tv : Int} {ws : List Int} {st : List Bool} {os : List RO} {ms : List Nat} {rs : List RG} {fs wds sts : List Int} {xs : List WX} {C D : Nat} {Q A Z : Nat → Nat}
set_option maxHeartbeats 16000000 in
/-- Over: the heap of what stays. -/
theorem Heap14_ok (F : SF n T w nR ws st os ms rs fs) (h1n : 1 ≤ n) (h : SI n T w nR ws os ms xs sts wds mv C D Q A Z) (ho : OverP sts nR (partsI T (szL (lvs ms os)) : Nat)) :
    Does Try.prog 22 [ptr ps 0] (sldS ps pf p bw bs pm bm bst bf n T w nR pw bw2 pz bz ws st ms rs fs wa wc (szL (lvs ms os)) sts wds xs mv tv)
    (fun v l => ∃ (p' bw' bs' : Nat) (st' : List Bool), HT n (szL (lvs ms os)) (NWI T ws ms os) st' ∧ v = .tuple #[ptr p' 0, .int .i64 0] ∧ l = heapL p' bw' bs' n (NWI T ws ms os) (szL (lvs ms os)) st' ++ sldS ps pf p bw bs pm bm bst bf n T w nR pw bw2 pz bz ws st ms rs fs wa wc (szL (lvs ms os)) sts wds xs mv tv) := by
  have hsl := h.sl
  have hnR := F.nRT
  have htn := F.h.tn
  have hn6 := F.n6
  have hsz := F.hsz
  obtain ⟨hwd, _⟩ := h.over F.hc F.hR F.hF.w1 F.h.wl htn ho
  have hNl := NWI_len (ms := ms) F.hc F.h.wl htn
  subst hwd
  refine Does.of tiok Try.func22 (by kernel_rfl) rfl Try.ntmps22 rfl ?_
  intro W fr
  repeat' (first | (refine IsO ?_; first | refine JO_nil ?_ | refine V1 rfl rfl rfl ?_) | (refine IsAt ?_; (with_reducible refine T1 ?_)) | (refine IsJ ?_; first | refine J_seq ?_ | refine J_region ?_ | refine J_skip ?_ | refine J_ret ?_ | (refine IsCond ?_; refine J_cond_f rfl ?_)))
  refine JO_l (OL_call [0, 0, 0, 0, 0, 0, 0, 0, 0, 0, 0, 0, 0, 0] rfl rfl rfl (Over_spec hsl (by omega)) rfl) rfl rfl ?_
  rintro _ _ ⟨_, ⟨t, ht2, rfl, rfl⟩, rfl⟩
  obtain rfl : t = true := ht2.2 ho
  repeat' (first | (refine IsO ?_; first | refine JO_nil ?_ | refine V1 rfl rfl rfl ?_) | (refine IsAt ?_; (with_reducible refine T1 ?_)) | (refine IsJ ?_; first | refine J_seq ?_ | refine J_region ?_ | refine J_skip ?_ | refine J_ret ?_ | (refine IsCond ?_; refine J_cond_f rfl ?_)))
  refine J_drawk [sdB ps pf p pw pz wa xs.length wc (partsI T (szL (lvs ms os)) : Nat) mv tv] (fun H hl => hl.pick (is := [0]) rfl) [0, 0, 0, 5, 2, 0, 0, 0, 5, 2, 2, 0, 0, 0, 0] [0, 1, 2, 3, 5, 6, 7, 8, 4, 9, 10, 11, 12, 13, 14] (by kernel_rfl) (by kernel_rfl) ?_
  repeat' (refine IsX ?_; first | (refine JX_nil ?_; refine At_np ?_) | (refine JX_op rfl ?_; refine XsO ?_; first | (refine XsLoad ?_; refine XL1k rfl rfl rfl rfl rfl ?_) | refine XV1 rfl rfl rfl rfl ?_))
  refine JX_lk rfl rfl (OL_call [4] rfl rfl rfl (CellsWords_z (p := pw) (bw := bw2) (ws := NWI T ws ms os) (by omega)) rfl) rfl rfl ?_ ?_
  · rintro _ _ ⟨_, ⟨_, _, _, rfl, rfl⟩, rfl⟩ H hl
    exact hl.pick (is := [2]) rfl
  rintro _ _ ⟨_, ⟨a1, cap1, hn1, rfl, rfl⟩, rfl⟩ _
  refine JX_lk rfl rfl (OL_call [9, 6, 6, 6, 6, 6, 6, 6, 6] rfl rfl rfl (FwdTop_spec F.hF) rfl) rfl rfl ?_ ?_
  · rintro _ _ ⟨_, ⟨rfl, rfl⟩, rfl⟩ H hl
    exact hl.pick (is := [11]) rfl
  rintro _ _ ⟨_, ⟨rfl, rfl⟩, rfl⟩ _
  have hR1 : Reads (rowz 3 1 a1 (NWI T ws ms os).length cap1 (intsV (NWI T ws ms os))) 1 (NWI T ws ms os).length a1 cap1 (intsV (NWI T ws ms os)) := Reads.rowz (by simp [intsV]) hn1
  have hOf := Of_spec hR1 (NWI_64 F.h F.hc) (szL (lvs ms os)) (by omega) (by omega) (by omega)
  obtain ⟨os', hos'⟩ := NWI_ch (ms := ms) F.hc
  obtain ⟨st', hst'⟩ := ofF_ch (f := szL (lvs ms os) + 1) (st := List.replicate (NWI T ws ms os).length false) hos' (by omega)
  have hHT := of_tell (NWI_64 F.h F.hc) (by omega) (by omega) hst'
  rw [hst'] at hOf
  refine JX_lk rfl rfl (OL_call [9] rfl rfl rfl hOf rfl) rfl rfl ?_ ?_
  · rintro _ _ ⟨_, ⟨_, _, _, rfl, rfl⟩, rfl⟩ H hl
    exact hl.pick (is := [14]) rfl
  rintro _ _ ⟨_, ⟨p', bw', bs', rfl, rfl⟩, rfl⟩ _
  repeat' (refine IsX ?_; first | (refine JX_nil ?_; refine At_np ?_) | (refine JX_op rfl ?_; refine XsO ?_; first | (refine XsLoad ?_; refine XL1k rfl rfl rfl rfl rfl ?_) | refine XV1 rfl rfl rfl rfl ?_))
  repeat' (first | (refine IsO ?_; first | refine JO_nil ?_ | refine V1 rfl rfl rfl ?_) | (refine IsAt ?_; (with_reducible refine T1 ?_)) | (refine IsJ ?_; first | refine J_seq ?_ | refine J_region ?_ | refine J_skip ?_ | refine J_ret ?_ | (refine IsCond ?_; refine J_cond_f rfl ?_)))
  rw [hNl] at hHT
  refine At_ret' rfl rfl (.tmp rfl (.tmp rfl .nil)) rfl (fun H hl => ?_) ⟨p', bw', bs', st', hHT, rfl, rfl⟩
  rw [hNl] at hl
  exact hl.pick (is := [0, 0, 0, 11, 11, 11, 11, 10, 2, 2, 2, 1, 1, 1, 1, 1, 1]) rfl
end ops
end Go.Proofs.Ytahfnbpbdnmggaa
/-
  Our own: a sliding that runs: one state of it, its steps, rounds in which each worker steps once.
-/
set_option linter.unusedVariables false
set_option linter.unusedSimpArgs false
namespace Go.Proofs.Ytahfnbpbdnmggaa
open Go.Sep
/-- A state of a sliding. -/
structure RSt where
  xs : List WX
  sts : List Int
  wds : List Int
  mv : Int
  tv : Int
  C : Nat
  D : Nat
abbrev RPhi (T w nR : Nat) (ws : List Int) (os : List RO) (ms : List Nat) (s : RSt) : Nat := PhiI T w nR ws os ms s.xs s.C s.D
abbrev ROv (T nR : Nat) (os : List RO) (ms : List Nat) (s : RSt) : Prop := OverP s.sts nR (partsI T (szL (lvs ms os)) : Nat)
structure ROk (n T w nR : Nat) (ws : List Int) (os : List RO) (ms : List Nat) (W : Nat) (s : RSt) : Prop where
  si : ∃ Q A Z, SI n T w nR ws os ms s.xs s.sts s.wds s.mv s.C s.D Q A Z
  xl : s.xs.length = W
  t0 : 0 ≤ s.tv
  cd : s.C + s.D + RPhi T w nR ws os ms s ≤ 1000000000
/-- In a round: over, or less is left than at its beginning, or nobody of those who stepped gets on. -/
def RRnd (T w nR : Nat) (ws : List Int) (os : List RO) (ms : List Nat) (s : RSt) (m0 : Nat) (P : Nat → Prop) : Prop :=
  ROv T nR os ms s ∨ RPhi T w nR ws os ms s < m0 ∨ (RPhi T w nR ws os ms s ≤ m0 ∧ ∀ (j : Nat) (x : WX), P j → s.xs[j]? = some x → Stk nR s.sts x)
/-- What a step comes to. -/
def RNx (T w nR : Nat) (ws : List Int) (os : List RO) (ms : List Nat) (s s' : RSt) (j : Nat) : Prop :=
  (ROv T nR os ms s ∧ s' = s) ∨ (¬ ROv T nR os ms s ∧ (s'.tv = s.tv ∨ s'.tv = s.tv + 1) ∧ (RPhi T w nR ws os ms s' < RPhi T w nR ws os ms s ∨ (s'.xs = s.xs ∧ s'.sts = s.sts ∧ s'.C = s.C ∧ s'.D = s.D ∧ ∀ x, s.xs[j]? = some x → Stk nR s.sts x)))
theorem RRnd.step {T w nR : Nat} {ws : List Int} {os : List RO} {ms : List Nat} {s s' : RSt} {m0 j : Nat} {P P' : Nat → Prop} (h : RRnd T w nR ws os ms s m0 P) (hn : RNx T w nR ws os ms s s' j) (hP : ∀ i, P' i → P i ∨ i = j) : RRnd T w nR ws os ms s' m0 P' := by
  rcases hn with ⟨ho, rfl⟩ | ⟨hno, _, hlt | ⟨e1, e2, e3, e4, hk⟩⟩
  · exact .inl ho
  · rcases h with ho | h1 | ⟨h1, _⟩
    · exact absurd ho hno
    · exact .inr (.inl (by omega))
    · exact .inr (.inl (by omega))
  · have ep : RPhi T w nR ws os ms s' = RPhi T w nR ws os ms s := by unfold RPhi; rw [e1, e3, e4]
    rcases h with ho | h1 | ⟨h1, h2⟩
    · exact absurd ho hno
    · exact .inr (.inl (by omega))
    · refine .inr (.inr ⟨by omega, fun i x hi hx => ?_⟩)
      rw [e1] at hx
      rw [e2]
      rcases hP i hi with hi | rfl
      · exact h2 i x hi hx
      · exact hk x hx
theorem RRnd.done {n T w nR W : Nat} {ws : List Int} {os : List RO} {ms : List Nat} {s : RSt} {m0 : Nat} {P : Nat → Prop} (h : RRnd T w nR ws os ms s m0 P) (hs : ROk n T w nR ws os ms W s) (h1 : 1 ≤ W) (hP : ∀ j, j < W → P j) : ROv T nR os ms s ∨ RPhi T w nR ws os ms s < m0 := by
  rcases h with ho | h1 | ⟨_, h2⟩
  · exact .inl ho
  · exact .inr h1
  · obtain ⟨Q, A, Z, hS⟩ := hs.si
    exact .inl (hS.stuck (by rw [hs.xl]; exact h1) fun j x hj => h2 j x (hP j (by have := (List.getElem?_eq_some_iff.1 hj).1; rw [hs.xl] at this; exact this)) hj)
section ops
variable {ps pf p bw bs pm bm bst bf n T w nR pw bw2 pz bz wc W : Nat} {wa : Option Addr} {ws : List Int} {st : List Bool} {os : List RO} {ms : List Nat} {rs : List RG} {fs : List Int} {s : RSt}
abbrev sldR (ps pf p bw bs pm bm bst bf n T w nR pw bw2 pz bz : Nat) (ws : List Int) (st : List Bool) (ms : List Nat) (rs : List RG) (fs : List Int) (wa : Option Addr) (wc : Nat) (S : Nat) (s : RSt) : List HP :=
  sldS ps pf p bw bs pm bm bst bf n T w nR pw bw2 pz bz ws st ms rs fs wa wc S s.sts s.wds s.xs s.mv s.tv
theorem Step_run (F : SF n T w nR ws st os ms rs fs) (hs : ROk n T w nR ws os ms W s) (hW : W ≤ 64) {j : Nat} (hj : j < W) (ht : In64 (s.tv + 1)) :
    Does Try.prog 21 [ptr ps 0, .int .i64 j] (sldR ps pf p bw bs pm bm bst bf n T w nR pw bw2 pz bz ws st ms rs fs wa wc (szL (lvs ms os)) s)
    (fun v l => ∃ (s' : RSt) (e : Int), ROk n T w nR ws os ms W s' ∧ RNx T w nR ws os ms s s' j ∧ ((ROv T nR os ms s ∧ e = 12) ∨ (¬ ROv T nR os ms s ∧ e = 0)) ∧ v = .int .i64 e ∧
      l = sldR ps pf p bw bs pm bm bst bf n T w nR pw bw2 pz bz ws st ms rs fs wa wc (szL (lvs ms os)) s') := by
  obtain ⟨⟨Q, A, Z, hS⟩, hxl, ht0, hcd⟩ := hs
  have hsl := hS.sl
  have hnR := F.nRT
  have htn := F.h.tn
  have hn6 := F.n6
  obtain ⟨x, hx⟩ : ∃ x, s.xs[j]? = some x := ⟨s.xs[j]'(by omega), List.getElem?_eq_getElem _⟩
  by_cases ho : ROv T nR os ms s
  · refine (SlStep_end ⟨by omega, by omega⟩ hsl (by omega) ho).mono ?_
    rintro v l ⟨rfl, rfl⟩
    exact ⟨s, 12, ⟨⟨Q, A, Z, hS⟩, hxl, ht0, hcd⟩, .inl ⟨ho, rfl⟩, .inl ⟨ho, rfl⟩, rfl, rfl⟩
  · refine (Step_spec F hS hx (by omega) ht hcd ho).mono ?_
    rintro v l ⟨x', sts', wds', mv', tv', C', D', ⟨⟨Q', A', Z', hS'⟩, g1, g2, g3, g4⟩, rfl, rfl⟩
    refine ⟨⟨s.xs.set j x', sts', wds', mv', tv', C', D'⟩, 0, ⟨⟨Q', A', Z', hS'⟩, by rw [List.length_set]; exact hxl, by dsimp only; omega, Nat.le_trans g2 hcd⟩, .inr ⟨ho, g1, ?_⟩, .inr ⟨ho, rfl⟩, rfl, rfl⟩
    rcases g4 with g4 | ⟨k1, rfl, k3, k4, k5⟩
    · exact .inl g4
    · refine .inr ⟨set_sameV hx, k3, k4, k5, fun y hy => ?_⟩
      rw [hx] at hy; injection hy with hy; rw [← hy]; exact k1
/-- At the beginning. -/
theorem Phi_new {xs : List WX} (hxs : ∀ (j : Nat) (y : WX), xs[j]? = some y → y = wk0 j y.c) (hc : Ch ws 0 os T) (hR : nR = numR w T) (h1w : 1 ≤ w) (htn : T ≤ n) (hW : xs.length ≤ 64) : PhiI T w nR ws os ms xs 0 0 < 10 * (n + 10) * (n + 10) := by
  have hnR : nR ≤ n := by rw [hR]; exact Nat.le_trans (numR_le h1w) htn
  have hs := hc.sz
  have h2 : szL (lvs ms os) ≤ szL os := szL_filter
  have h3 := len_le_sz (L := lvs ms os)
  have a1 : ∀ m, m ≤ nR → ((List.range m).map (cRI w nR (lvs ms os))).sum ≤ m * (nR + 4) + (befR w m (lvs ms os)).length + 2 * szL (befR w m (lvs ms os)) := by
    intro m
    induction m with
    | zero => intro _; exact Nat.zero_le _
    | succ m ih =>
      intro hm
      have h1 := ih (by omega)
      rw [List.range_succ, List.map_append, List.sum_append]
      simp only [List.map_cons, List.map_nil, List.sum_cons, List.sum_nil]
      rw [befR_len, befR_next, Nat.succ_mul]
      rw [show cRI w nR (lvs ms os) m = nR + 4 + (inR w m (lvs ms os)).length + 2 * lvI w (lvs ms os) m from rfl]
      have : lvI w (lvs ms os) m = szL (inR w m (lvs ms os)) := rfl
      omega
  have a2 := a1 nR (Nat.le_refl _)
  rw [hR, befR_all ms h1w hc, ← hR] at a2
  have a3 : (xs.map (phiW nR ws)).sum ≤ 64 * (nR + 5) := by
    have : ∀ l : List WX, (∀ y ∈ l, y.fn = fnC) → (l.map (phiW nR ws)).sum = l.length * (nR + 5) := by
      intro l
      induction l with
      | nil => intro _; simp
      | cons y r ih =>
        intro hl
        rw [List.map_cons, List.sum_cons, ih fun z hz => hl z (.tail _ hz), phi_C (hl y (.head _)), List.length_cons, Nat.succ_mul]
        omega
    rw [this xs fun y hy => by
      obtain ⟨i, hi⟩ := List.getElem?_of_mem hy
      rw [hxs i y hi]]
    exact Nat.mul_le_mul_right _ hW
  have a4 : nR * (nR + 4) ≤ n * (n + 4) := Nat.mul_le_mul hnR (by omega)
  have a5 : partsI T (szL (lvs ms os)) ≤ n + 1 := by unfold partsI; omega
  have a6 : 10 * (n + 10) * (n + 10) = 10 * (n * n) + 200 * n + 1000 := by
    rw [Nat.mul_assoc, Nat.add_mul, Nat.mul_add, Nat.mul_add]
    omega
  have a7 : n * (n + 4) = n * n + n * 4 := Nat.mul_add ..
  rw [a7] at a4
  unfold PhiI
  rw [List.drop_zero]
  omega
end ops
end Go.Proofs.Ytahfnbpbdnmggaa
/-
  Our own: a sliding that runs: how it begins; what it tells.
-/
set_option linter.unusedVariables false
set_option linter.unusedSimpArgs false
namespace Go.Proofs.Ytahfnbpbdnmggaa
open Go.Sep
section ops
variable {ps pf p bw bs pm bm bst bf n T w nR pw bw2 pz bz wc W : Nat} {wa : Option Addr} {ws : List Int} {st : List Bool} {os : List RO} {ms : List Nat} {rs : List RG} {fs : List Int} {s : RSt}
theorem New_run (words : Int) (wk : Nat) (hw : 1 ≤ wk ∧ wk ≤ 64) (h64 : In64 words) (h : HT n T ws st) (hc : Ch ws 0 os T) (hM : MI n ms) (hld : LeadP os) (hyes : RightP ms os) (hn1 : 1 ≤ n) (hn2 : n ≤ 5000) :
    Does Try.prog 13 [ptr p 0, ptr pm 0, .int .i64 words, .int .i64 wk] (heapL p bw bs n ws T st ++ marksL pm bm n ms)
    (fun v l => ∃ (ps pf w nR bst bf pw bw2 pz bz : Nat) (rs : List RG) (fs : List Int) (wa : Option Addr) (wc : Nat) (s : RSt), SF n T w nR ws st os ms rs fs ∧ ROk n T w nR ws os ms wk s ∧ RPhi T w nR ws os ms s < 10 * (n + 10) * (n + 10) ∧ s.tv = 0 ∧ s.mv = 0 ∧
      v = .tuple #[ptr ps 0, .int .i64 0] ∧ l = sldR ps pf p bw bs pm bm bst bf n T w nR pw bw2 pz bz ws st ms rs fs wa wc (szL (lvs ms os)) s) := by
  refine (SliderNew_ok words wk hw h64 h hc hM hld hyes hn1).mono ?_
  rintro v l ⟨ps, pf, w, nR, bst, bf, pw, bw2, pz, bz, rs, fs, wa, wc, xs, hw2, hF, hnR, hxl, hxs, rfl, rfl⟩
  have hs := hc.sz
  have h2 : szL (lvs ms os) ≤ szL os := szL_filter
  have hP := Phi_new (ms := ms) hxs hc hnR (by omega) h.tn (by omega)
  have hb : (n + 10) * (n + 10) ≤ 5010 * 5010 := Nat.mul_le_mul (by omega) (by omega)
  have e : ((T : Int) - ((szL (lvs ms os) : Nat) : Int) + 16 - 1) / 16 = ((partsI T (szL (lvs ms os)) : Nat) : Int) := by unfold partsI; omega
  rw [e]
  have hP2 : PhiI T w nR ws os ms xs 0 0 < 10 * ((n + 10) * (n + 10)) := by rw [← Nat.mul_assoc]; exact hP
  exact ⟨ps, pf, w, nR, bst, bf, pw, bw2, pz, bz, rs, fs, wa, wc, ⟨xs, List.replicate (3 + nR) 0, ws, 0, 0, 0, 0⟩, ⟨h, hc, hM, hF, hnR, hyes, by omega⟩, ⟨⟨_, _, _, SI.new h.wl hxs⟩, hxl, Int.le_refl _, by show 0 + 0 + PhiI T w nR ws os ms xs 0 0 ≤ _; omega⟩, hP, rfl, rfl, rfl, rfl⟩
theorem Over_run (F : SF n T w nR ws st os ms rs fs) (hs : ROk n T w nR ws os ms W s) : Does Try.prog 20 [ptr ps 0] (sldR ps pf p bw bs pm bm bst bf n T w nR pw bw2 pz bz ws st ms rs fs wa wc (szL (lvs ms os)) s)
    (fun v l => ∃ t : Bool, (t = true ↔ ROv T nR os ms s) ∧ v = .bool t ∧ l = sldR ps pf p bw bs pm bm bst bf n T w nR pw bw2 pz bz ws st ms rs fs wa wc (szL (lvs ms os)) s) := by
  obtain ⟨Q, A, Z, hS⟩ := hs.si
  have hnR := F.nRT
  have htn := F.h.tn
  have hn6 := F.n6
  exact Over_spec hS.sl (by omega)
theorem Heap_run (F : SF n T w nR ws st os ms rs fs) (h1n : 1 ≤ n) (hs : ROk n T w nR ws os ms W s) (ho : ROv T nR os ms s) : Does Try.prog 22 [ptr ps 0] (sldR ps pf p bw bs pm bm bst bf n T w nR pw bw2 pz bz ws st ms rs fs wa wc (szL (lvs ms os)) s)
    (fun v l => ∃ (p' bw' bs' : Nat) (st' : List Bool), HT n (szL (lvs ms os)) (NWI T ws ms os) st' ∧ v = .tuple #[ptr p' 0, .int .i64 0] ∧ l = heapL p' bw' bs' n (NWI T ws ms os) (szL (lvs ms os)) st' ++ sldR ps pf p bw bs pm bm bst bf n T w nR pw bw2 pz bz ws st ms rs fs wa wc (szL (lvs ms os)) s) := by
  obtain ⟨Q, A, Z, hS⟩ := hs.si
  exact Heap14_ok F h1n hS ho
end ops
end Go.Proofs.Ytahfnbpbdnmggaa
/-
  Our own: the document's answer for layer 11 (besomref11.Reach): what is reached.
-/
set_option linter.unusedVariables false
set_option linter.unusedSimpArgs false
namespace Go.Proofs.Ytahfnbpbdnmggaa
open Go.Sep
/-- An object is reached. -/
inductive Rch (os : List RO) (rts : List Int) : Nat → Prop
  | root {z : Int} {j : Nat} {o : RO} (hz : z ∈ rts) (hj : os[j]? = some o) (he : z = (o.i : Int) + 1) : Rch os rts j
  | ref {i k j : Nat} {o o' : RO} {y : Int} (h : Rch os rts i) (hi : os[i]? = some o) (hk : (k : Int) < o.p) (hy : o.ws[k]? = some y) (hj : os[j]? = some o') (he : y = (o'.i : Int) + 1) : Rch os rts j
/-- What a reference leads to is told to be reached. -/
def HitI (os : List RO) (out : List Bool) (y : Int) : Prop := y = 0 ∨ ∀ (j : Nat) (o : RO), os[j]? = some o → y = (o.i : Int) + 1 → out[j]? = some true
def upB (a b : List Bool) : Prop := ∀ j : Nat, a[j]? = some true → b[j]? = some true
theorem HitI.up {os : List RO} {a b : List Bool} {y : Int} (h : HitI os a y) (u : upB a b) : HitI os b y := h.imp id fun k j o hj he => u j (k j o hj he)
structure RcI (os : List RO) (rts : List Int) (out : List Bool) : Prop where
  len : out.length = os.length
  snd : ∀ j : Nat, out[j]? = some true → Rch os rts j
theorem RcI.set {ws : List Int} {T : Nat} {os : List RO} {rts : List Int} {out : List Bool} (h : RcI os rts out) {j : Nat} (hr : Rch os rts j) : RcI os rts (out.set j true) := by
  refine ⟨by rw [List.length_set]; exact h.len, fun i hi => ?_⟩
  rcases set_cases hi with ⟨rfl, _⟩ | ⟨_, hi⟩
  · exact hr
  · exact h.snd i hi
end Go.Proofs.Ytahfnbpbdnmggaa
/-
  Our own: where a graph's nodes lie: at objects that are no fillers.
-/
set_option linter.unusedVariables false
set_option linter.unusedSimpArgs false
namespace Go.Proofs.Ytahfnbpbdnmggaa
open Go.Sep
def hsum (hs : List (Int × Nat × Int)) : Nat := (hs.map fun h => 1 + h.2.1).sum
theorem hsum_app {a b : List (Int × Nat × Int)} : hsum (a ++ b) = hsum a + hsum b := by unfold hsum; rw [List.map_append, List.sum_append]
def LGok (s : LG) : Prop := s.T = hsum s.hs ∧ ∀ q ∈ s.at_, ∃ (j : Nat) (h : Int × Nat × Int), s.hs[j]? = some h ∧ h.1 ≠ 15 ∧ q = (hsum (s.hs.take j) : Int)
theorem LGok.snoc {i : Nat} {s : LG} (h : LGok s) (x : Int × Nat × Int) : LGok ⟨i, s.T + 1 + x.2.1, s.at_, s.hs ++ [x]⟩ := by
  refine ⟨?_, fun q hq => ?_⟩
  · show s.T + 1 + x.2.1 = hsum (s.hs ++ [x])
    rw [hsum_app, h.1]
    show _ = hsum s.hs + (1 + x.2.1 + 0)
    omega
  · obtain ⟨j, y, h1, h2, h3⟩ := h.2 q hq
    have hl := (List.getElem?_eq_some_iff.1 h1).1
    refine ⟨j, y, ?_, h2, ?_⟩
    · show (s.hs ++ [x])[j]? = _
      rw [List.getElem?_append_left hl]; exact h1
    · show q = (hsum ((s.hs ++ [x]).take j) : Int)
      rw [List.take_append_of_le_length (by omega)]; exact h3
theorem LGok.step {s : LG} (h : LGok s) (y : ND) : LGok (stepG s y) := by
  have hf : LGok (fillG s y) := by
    unfold fillG
    split
    · exact h.snoc (15, (y.k % 2).toNat, 0)
    · exact h
  generalize hs1 : fillG s y = s1 at hf
  unfold stepG
  rw [show fillG s y = s1 from hs1]
  unfold nodeG
  have h1 := hf.snoc (i := s1.i + 1) (y.k % 15, lenG y, (y.es.length : Int))
  refine ⟨h1.1, fun q hq => ?_⟩
  dsimp only at hq
  rcases List.mem_append.1 hq with hq | hq
  · exact h1.2 q hq
  · rw [List.mem_singleton.1 hq]
    refine ⟨s1.hs.length, (y.k % 15, lenG y, (y.es.length : Int)), ?_, ?_, ?_⟩
    · show (s1.hs ++ [_])[s1.hs.length]? = _
      rw [List.getElem?_append_right (Nat.le_refl _), Nat.sub_self]; rfl
    · show y.k % 15 ≠ 15
      have := Int.emod_lt_of_pos y.k (show (0 : Int) < 15 by decide)
      omega
    · show (s1.T : Int) = (hsum ((s1.hs ++ [_]).take s1.hs.length) : Int)
      rw [List.take_append_of_le_length (Nat.le_refl _), List.take_length, ← hf.1]
theorem layG_ok (ns : List ND) : LGok (layG ns) := by
  unfold layG
  have h0 : LGok ⟨0, 0, [], []⟩ := ⟨rfl, fun q hq => by cases hq⟩
  generalize (⟨0, 0, [], []⟩ : LG) = s at h0
  induction ns generalizing s with
  | nil => exact h0
  | cons y r ih => exact ih _ (h0.step y)
theorem Ch.hsum {ws : List Int} : ∀ {os : List RO} {i T j : Nat} {o : RO}, Ch ws i os T → os[j]? = some o → o.i = i + Go.Proofs.Ytahfnbpbdnmggaa.hsum ((os.map hdO).take j)
  | [], _, _, _, _, _, hj => by cases hj
  | x :: r, i, T, 0, o, h, hj => by
    injection hj with hj; subst hj
    exact h.1
  | x :: r, i, T, j + 1, o, h, hj => by
    have h1 := Ch.hsum h.2.2.2.2 (j := j) hj
    rw [h1, List.map_cons, List.take_succ_cons]
    show _ = i + (1 + x.ws.length + (((r.map hdO).take j).map fun h => 1 + h.2.1).sum)
    unfold Go.Proofs.Ytahfnbpbdnmggaa.hsum
    omega
/-- A node's place is an object's. -/
theorem BInv.nodes {n T : Nat} {ws : List Int} {st : List Bool} {os : List RO} {ns : List ND} (h : BInv n T ws st os (layG ns).hs) {q : Int} (hq : q ∈ (layG ns).at_) : ∃ (j : Nat) (o : RO), os[j]? = some o ∧ (o.i : Int) = q ∧ o.k ≠ 15 := by
  obtain ⟨j, y, h1, h2, h3⟩ := (layG_ok ns).2 q hq
  rw [← h.hd] at h1 h3
  rw [List.getElem?_map] at h1
  cases ho : os[j]? with
  | none => rw [ho] at h1; cases h1
  | some o =>
    rw [ho] at h1
    injection h1 with h1
    refine ⟨j, o, ho, ?_, ?_⟩
    · rw [h3, h.ch.hsum ho, Nat.zero_add]
    · have : y.1 = o.k := by rw [← h1]
      rw [← this]; exact h2
/-- A root is nought, or leads to an object. -/
theorem BInv.root {n T : Nat} {ws : List Int} {st : List Bool} {os : List RO} {ns : List ND} (h : BInv n T ws st os (layG ns).hs) (z : Int) : plcI (layG ns).at_ z = 0 ∨ ∃ (j : Nat) (o : RO), os[j]? = some o ∧ plcI (layG ns).at_ z = (o.i : Int) + 1 ∧ o.k ≠ 15 := by
  unfold plcI
  split
  · exact .inl rfl
  · rename_i hne
    have m0 : 0 ≤ z % (((layG ns).at_.length : Int) + 1) := Int.emod_nonneg _ (by omega)
    have m1 : z % (((layG ns).at_.length : Int) + 1) < ((layG ns).at_.length : Int) + 1 := Int.emod_lt_of_pos _ (by omega)
    obtain ⟨k, hk⟩ := Int.eq_ofNat_of_zero_le m0
    rw [hk] at hne m1 ⊢
    have hkl : k < (layG ns).at_.length := by omega
    rw [Int.toNat_natCast, List.getD_eq_getElem?_getD, List.getElem?_eq_getElem hkl]
    obtain ⟨j, o, h1, h2, h3⟩ := h.nodes (List.getElem_mem hkl)
    exact .inr ⟨j, o, h1, by rw [h2]; exact Int.add_comm _ _, h3⟩
end Go.Proofs.Ytahfnbpbdnmggaa
/-
  Our own: besomlaw14.reached: a graph's heap, marks of all that is reached.
-/
set_option linter.unusedVariables false
set_option linter.unusedSimpArgs false
namespace Go.Proofs.Ytahfnbpbdnmggaa
open Go.Sep
/-- References lead to objects that are no fillers. -/
theorem leads_obj {n T : Nat} {ws : List Int} {st : List Bool} {os : List RO} (h : HT n T ws st) (hc : Ch ws 0 os T) (hr : RefsOk ws st) {j k : Nat} {o : RO} {y : Int} (ho : os[j]? = some o) (hk : (k : Int) < o.p) (hy : o.ws[k]? = some y) : y = 0 ∨ ∃ (j' : Nat) (o' : RO), os[j']? = some o' ∧ y = (o'.i : Int) + 1 ∧ o'.k ≠ 15 := by
  have hl := (refs_iff h hc).1 hr o (List.mem_of_getElem? ho) k y hk hy
  have h2 := of_decide_eq_true hl
  rcases h2 with h0 | ⟨h1, hs, h15⟩
  · exact .inl h0
  · right
    have hst : (0 = T ∨ st[0]? = some true) := h.zero.imp Eq.symm id
    obtain ⟨o', ho', he⟩ := Ch.find h hc hst (y - 1).toNat (Nat.zero_le _) hs
    obtain ⟨j', hj'⟩ := List.getElem?_of_mem ho'
    refine ⟨j', o', hj', by omega, ?_⟩
    have hat := (hc.at hj').2
    rw [← he, List.getD_eq_getElem?_getD, hat.2.2.1, Option.getD_some, (packI_un hat.2.1).2.2.1] at h15
    exact h15
/-- The marks of all that is reached. -/
def RMk (os : List RO) (rts : List Int) (ms : List Nat) : Prop := ∀ (j : Nat) (o : RO), os[j]? = some o → (lvB ms o = true ↔ Rch os rts j)
theorem RMk.right {n T : Nat} {ws : List Int} {st : List Bool} {os : List RO} {rts : List Int} {ms : List Nat} (h : HT n T ws st) (hc : Ch ws 0 os T) (hr : RefsOk ws st) (hm : RMk os rts ms) : RightP ms os := by
  intro j o ho hl k y hk hy
  rcases leads_obj h hc hr ho hk hy with h0 | ⟨j2, o2, hj2, he2, h15⟩
  · exact .inl h0
  · exact .inr ⟨j2, o2, hj2, (hm j2 o2 hj2).2 (.ref ((hm j o ho).1 hl) ho hk hy hj2 he2), by omega⟩
end Go.Proofs.Ytahfnbpbdnmggaa
/-
  Our own: a sliding of a heap of which all stays changes nothing; a graph's first nodes.
-/
set_option linter.unusedVariables false
set_option linter.unusedSimpArgs false
namespace Go.Sep
theorem Reads.first {R : HP} {sz m cap : Nat} {a : Option Addr} {cs : List Value} (h : Reads R sz m a cap cs) {n : Nat} (hn : n ≤ m) : Reads R sz n a cap (cs.take (n * sz)) := by
  have hl := h.len
  have hk : n * sz ≤ m * sz := Nat.mul_le_mul_right sz hn
  refine ⟨by rw [List.length_take]; omega, fun e => ⟨by have := (h.empty e).1; omega, (h.empty e).2⟩, fun W l w hs hm i hi => ?_⟩
  obtain ⟨b, o, e, hc⟩ := h.cell W l w hs hm i (by omega)
  exact ⟨b, o, e, by rw [hc, List.getElem?_take_of_lt hi]⟩
end Go.Sep
namespace Go.Proofs.Ytahfnbpbdnmggaa
open Go.Sep
def cutG (g : GG) (k : Nat) : GG := ⟨g.ns.take k, g.na, g.nc, g.rs, g.ra, g.rc⟩
theorem GOk.cut {R : HP} {g : GG} (h : GOk R g) {k : Nat} (hk : k ≤ g.ns.length) : GOk R (cutG g k) := by
  have e : (g.ns.take k).length = k := by rw [List.length_take]; omega
  refine ⟨fun y hy => h.nd y (List.mem_of_mem_take hy), ?_, ?_, h.rr, h.rb, h.rl⟩
  · have h1 := h.rn.first (n := k) hk
    rw [flat_takeN (f := cellsN) (fun _ => rfl)] at h1
    show Reads R 3 (g.ns.take k).length g.na g.nc ((g.ns.take k).flatMap cellsN)
    rw [e]
    exact h1
  · show (g.ns.take k).length ≤ _
    have := h.nl
    omega
theorem few_cut {g : GG} (hf : fewB g = true) (k : Nat) : fewB (cutG g k) = true := by
  unfold fewB at hf ⊢
  rw [Bool.and_eq_true, Bool.and_eq_true] at hf ⊢
  obtain ⟨h1, h2, h3⟩ := hf
  have h2 := of_decide_eq_true h2
  refine ⟨?_, ?_, h3⟩
  · rw [List.all_eq_true] at h1 ⊢
    exact fun y hy => h1 y (List.mem_of_mem_take hy)
  · refine decide_eq_true ?_
    show (g.ns.take k).length ≤ 14
    rw [List.length_take]; omega
theorem lay_two {ns : List ND} (h : ns.length ≤ 2) : ∀ e ∈ (layG ns).hs, e.1 ≠ 15 := by
  intro e he
  match ns, h with
  | [], _ => cases he
  | [y], _ =>
    have he : e ∈ [(y.k % 15, lenG y, (y.es.length : Int))] := he
    rw [List.mem_singleton.1 he]
    show y.k % 15 ≠ 15
    omega
  | [y, z], _ =>
    have he : e ∈ [(y.k % 15, lenG y, (y.es.length : Int)), (z.k % 15, lenG z, (z.es.length : Int))] := he
    rcases List.mem_cons.1 he with he | he
    · rw [he]
      show y.k % 15 ≠ 15
      omega
    · rw [List.mem_singleton.1 he]
      show z.k % 15 ≠ 15
      omega
theorem Ch.cov {ws : List Int} : ∀ {os : List RO} {i T x : Nat}, Ch ws i os T → i ≤ x → x < T → ∃ (j : Nat) (o : RO) (t : Nat), os[j]? = some o ∧ t < 1 + o.ws.length ∧ x = o.i + t
  | [], i, T, x, h, h1, h2 => by have : i = T := h; omega
  | o :: r, i, T, x, h, h1, h2 => by
    have hi := h.1
    rcases Nat.lt_or_ge x (i + 1 + o.ws.length) with e | e
    · exact ⟨0, o, x - i, rfl, by omega, by omega⟩
    · obtain ⟨j, o', t, k1, k2, k3⟩ := Ch.cov h.2.2.2.2 e h2
      exact ⟨j + 1, o', t, k1, k2, k3⟩
section all
variable {n T : Nat} {ws : List Int} {st : List Bool} {os : List RO} {ms : List Nat}
theorem lvs_all (ha : ∀ o ∈ os, lvB ms o = true) : lvs ms os = os := List.filter_eq_self.2 ha
theorem szL_all (hc : Ch ws 0 os T) (ha : ∀ o ∈ os, lvB ms o = true) : szL (lvs ms os) = T := by
  rw [lvs_all ha]
  have := hc.sz
  omega
theorem goI_whole (hc : Ch ws 0 os T) (ha : ∀ o ∈ os, lvB ms o = true) {j : Nat} {o : RO} (ho : os[j]? = some o) : goI ms os j = o.i := by
  unfold goI
  have h1 := (hc.at ho).1
  have h2 := szL_all h1 fun o ho => ha o (List.mem_of_mem_take ho)
  exact h2
theorem NWI_whole (h : HT n T ws st) (hc : Ch ws 0 os T) (hr : RefsOk ws st) (ha : ∀ o ∈ os, lvB ms o = true) : NWI T ws ms os = ws := by
  apply List.ext_getElem?
  intro x
  rcases Nat.lt_or_ge x T with e | e
  · obtain ⟨j, o, t, ho, ht, rfl⟩ := hc.cov (Nat.zero_le _) e
    have hl := ha o (List.mem_of_getElem? ho)
    have hN := NWI_obj (T := T) (ws := ws) ho hl ht
    rw [goI_whole hc ha ho] at hN
    rw [hN]
    have hat := (hc.at ho).2
    unfold nwO
    cases t with
    | zero => exact hat.2.2.1.symm
    | succ t =>
      rw [List.getElem?_cons_succ]
      obtain ⟨y, hy⟩ : ∃ y, o.ws[t]? = some y := ⟨o.ws[t]'(by omega), List.getElem?_eq_getElem _⟩
      rw [fwL_at hy, show o.i + (t + 1) = o.i + 1 + t by omega, hat.2.2.2.1 t (by omega), hy]
      congr 1
      split
      · rename_i hp
        rcases leads_obj h hc hr ho hp hy with rfl | ⟨j', o', ho', rfl, _⟩
        · exact fwI_zero
        · rw [fwI_obj hc ho', goI_whole hc ha ho']
      · rfl
  · exact NWI_rest hc e
end all
end Go.Proofs.Ytahfnbpbdnmggaa
/-
  Our own: besomlaw14.awake.
-/
set_option linter.unusedVariables false
set_option linter.unusedSimpArgs false
namespace Go.Proofs.Ytahfnbpbdnmggaa
open Go.Sep
set_option maxHeartbeats 4000000 in
theorem awake14_spec : Does Try.prog 7 [] [] (fun v l => v = .bool true ∧ l = []) := by
  refine Does.of tiok Try.func7 (by kernel_rfl) rfl Try.ntmps7 rfl ?_
  intro W fr
  have hN : Does Try.prog 30 [.int .i64 3] [] _ := heapNew_ok 3 (by decide) (by decide)
  have hK : Does Try.prog 10 [.int .i64 3] [] _ := marksNew 3 (by decide) (by decide)
  repeat' (first | (refine IsO ?_; first | refine JO_nil ?_ | (refine IsMove ?_; first | refine M1 rfl rfl rfl ?_ | refine M4 rfl rfl rfl ?_) | (refine IsBin ?_; first | refine B9 rfl rfl rfl rfl rfl rfl rfl ?_ | refine BA rfl rfl rfl rfl rfl rfl rfl ?_) | refine V1 rfl rfl rfl ?_) | (refine IsAt ?_; (with_reducible refine T1 ?_)) | (refine IsJ ?_; first | refine J_seq ?_ | refine J_region ?_ | refine J_skip ?_ | refine J_ret ?_ | (refine IsCond ?_; refine J_cond_f rfl ?_)))
  refine JO_l (OL_call [] rfl rfl rfl (hN) rfl) rfl rfl ?_; rintro _ _ ⟨_, ⟨p, bw, bs, rfl, rfl⟩, rfl⟩
  repeat' (first | (refine IsO ?_; first | refine JO_nil ?_ | (refine IsMove ?_; first | refine M1 rfl rfl rfl ?_ | refine M4 rfl rfl rfl ?_) | (refine IsBin ?_; first | refine B9 rfl rfl rfl rfl rfl rfl rfl ?_ | refine BA rfl rfl rfl rfl rfl rfl rfl ?_) | refine V1 rfl rfl rfl ?_) | (refine IsAt ?_; (with_reducible refine T1 ?_)) | (refine IsJ ?_; first | refine J_seq ?_ | refine J_region ?_ | refine J_skip ?_ | refine J_ret ?_ | (refine IsCond ?_; refine J_cond_f rfl ?_)))
  refine JO_l (OL_call [] rfl rfl rfl (hK) rfl) rfl rfl ?_; rintro _ _ ⟨_, ⟨pm, bm, rfl, rfl⟩, rfl⟩
  repeat' (first | (refine IsO ?_; first | refine JO_nil ?_ | (refine IsMove ?_; first | refine M1 rfl rfl rfl ?_ | refine M4 rfl rfl rfl ?_) | (refine IsBin ?_; first | refine B9 rfl rfl rfl rfl rfl rfl rfl ?_ | refine BA rfl rfl rfl rfl rfl rfl rfl ?_) | refine V1 rfl rfl rfl ?_) | (refine IsAt ?_; (with_reducible refine T1 ?_)) | (refine IsJ ?_; first | refine J_seq ?_ | refine J_region ?_ | refine J_skip ?_ | refine J_ret ?_ | (refine IsCond ?_; refine J_cond_f rfl ?_)))
  have hS : Does Try.prog 13 [ptr p 0, ptr pm 0, .int .i64 2, .int .i64 1] (heapL p bw bs 3 (List.replicate 3 0) 0 (List.replicate 3 false) ++ marksL pm bm 3 (List.replicate ((3 + 63) / 64) 0)) _ :=
    SliderNew_ok (n := 3) (T := 0) (os := []) 2 1 (by decide) (by unfold In64; decide) (HT.new (by decide)) rfl (MI.new (by decide)) (fun j o hj => by cases hj) (fun j o hj => by cases hj) (by decide)
  refine JO_l (OL_call [2, 2, 2, 0, 0] rfl rfl rfl hS rfl) rfl rfl ?_
  rintro _ _ ⟨_, ⟨ps, pf, w, nR, bst, bf, pw, bw2, pz, bz, rs, fs, wa, wc, xs, hw, hF, hnR, hxl, hxs, rfl, rfl⟩, rfl⟩
  have hn0 : nR = 0 := by
    rw [hnR]
    unfold numR
    exact Nat.div_eq_of_lt (by omega)
  clear hF hnR hxs
  subst hn0
  have hO : OverP (List.replicate (3 + 0) 0) 0 ((((0 : Nat) : Int) - ((szL (lvs (List.replicate ((3 + 63) / 64) 0) []) : Nat) : Int) + 16 - 1) / 16) := ⟨fun k y hk => absurd hk (Nat.not_lt_zero _), rfl⟩
  repeat' (first | (refine IsO ?_; first | refine JO_nil ?_ | (refine IsMove ?_; first | refine M1 rfl rfl rfl ?_ | refine M4 rfl rfl rfl ?_) | (refine IsBin ?_; first | refine B9 rfl rfl rfl rfl rfl rfl rfl ?_ | refine BA rfl rfl rfl rfl rfl rfl rfl ?_) | refine V1 rfl rfl rfl ?_) | (refine IsAt ?_; (with_reducible refine T1 ?_)) | (refine IsJ ?_; first | refine J_seq ?_ | refine J_region ?_ | refine J_skip ?_ | refine J_ret ?_ | (refine IsCond ?_; refine J_cond_f rfl ?_)))
  refine JO_l (OL_call [0, 0, 0, 0, 0, 0, 0, 0, 0, 0, 0, 0, 0, 0] rfl rfl rfl (Over_spec rfl (by decide)) rfl) rfl rfl ?_
  rintro _ _ ⟨_, ⟨t, ht, rfl, rfl⟩, rfl⟩
  obtain rfl : t = true := ht.2 hO
  clear ht
  repeat' (first | (refine IsO ?_; first | refine JO_nil ?_ | (refine IsMove ?_; first | refine M1 rfl rfl rfl ?_ | refine M4 rfl rfl rfl ?_) | (refine IsBin ?_; first | refine B9 rfl rfl rfl rfl rfl rfl rfl ?_ | refine BA rfl rfl rfl rfl rfl rfl rfl ?_) | refine V1 rfl rfl rfl ?_) | (refine IsAt ?_; (with_reducible refine T1 ?_)) | (refine IsJ ?_; first | refine J_seq ?_ | refine J_region ?_ | refine J_skip ?_ | refine J_ret ?_ | (refine IsCond ?_; refine J_cond_f rfl ?_)))
  have hE := SlStep_end (ps := ps) (pf := pf) (p := p) (bw := bw) (bs := bs) (pm := pm) (bm := bm) (bst := bst) (bf := bf) (n := 3) (T := 0) (w := w) (nR := 0) (pw := pw) (bw2 := bw2) (pz := pz) (bz := bz) (ws := List.replicate 3 0) (st := List.replicate 3 false) (ms := List.replicate ((3 + 63) / 64) 0) (rs := rs) (fs := fs) (wds := List.replicate 3 0) (wa := wa) (wc := wc) (xs := xs) (mv := 0) (tv := 0) (who := 0) ⟨by decide, by omega⟩ rfl (by decide) hO
  refine JO_l (OL_call [0, 0, 0, 0, 0, 0, 0, 0, 0, 0, 0, 0, 0, 0] rfl rfl rfl hE rfl) rfl rfl ?_
  rintro _ _ ⟨_, ⟨rfl, rfl⟩, rfl⟩
  repeat' (first | (refine IsO ?_; first | refine JO_nil ?_ | (refine IsMove ?_; first | refine M1 rfl rfl rfl ?_ | refine M4 rfl rfl rfl ?_) | (refine IsBin ?_; first | refine B9 rfl rfl rfl rfl rfl rfl rfl ?_ | refine BA rfl rfl rfl rfl rfl rfl rfl ?_) | refine V1 rfl rfl rfl ?_) | (refine IsAt ?_; (with_reducible refine T1 ?_)) | (refine IsJ ?_; first | refine J_seq ?_ | refine J_region ?_ | refine J_skip ?_ | refine J_ret ?_ | (refine IsCond ?_; refine J_cond_f rfl ?_)))
  exact At_ret1 rfl rfl rfl (is := []) rfl ⟨rfl, rfl⟩
end Go.Proofs.Ytahfnbpbdnmggaa
/-
  Our own: the law function besomlaw14.SliderWhole.
-/
set_option linter.unusedVariables false
set_option linter.unusedSimpArgs false
namespace Go.Proofs.Ytahfnbpbdnmggaa
open Go.Sep
theorem Whole1_spec {n pm bm bt i : Nat} {ms : List Nat} {h1 h2 h3 : Int} (hM : MI n ms) (hi : i < n) : Does Try.prog 26 [.int .i64 i, headV h1 h2 h3, ptr bt 0] (blk bt [ptr pm 0] 36 :: marksL pm bm n ms)
    (fun v l => v = .bool true ∧ l = blk bt [ptr pm 0] 36 :: marksL pm bm n (setM ms i)) := by
  refine Does.of tiok Try.func26 (by kernel_rfl) rfl Try.ntmps26 rfl ?_
  intro W fr
  repeat' (first | (refine IsO ?_; first | refine JO_nil ?_ | (refine IsLoad ?_; refine L1 rfl rfl rfl rfl ?_) | (refine IsBox ?_; refine N1 rfl rfl rfl rfl (fun _ => ?_)) | refine V1 rfl rfl rfl ?_) | (refine IsAt ?_; (with_reducible refine T1 ?_)) | (refine IsJ ?_; first | refine J_seq ?_ | refine J_region ?_ | refine J_ret ?_))
  refine JO_l (OL_call [2, 2] rfl rfl rfl (Set_in i hM hi) rfl) rfl rfl ?_
  rintro _ _ ⟨_, ⟨rfl, rfl⟩, rfl⟩
  repeat' (first | (refine IsO ?_; first | refine JO_nil ?_ | (refine IsLoad ?_; refine L1 rfl rfl rfl rfl ?_) | (refine IsBox ?_; refine N1 rfl rfl rfl rfl (fun _ => ?_)) | refine V1 rfl rfl rfl ?_) | (refine IsAt ?_; (with_reducible refine T1 ?_)) | (refine IsJ ?_; first | refine J_seq ?_ | refine J_region ?_ | refine J_ret ?_))
  exact At_ret rfl rfl (.tmp rfl .nil) rfl (is := [3, 0, 0]) rfl ⟨rfl, rfl⟩
set_option maxHeartbeats 32000000 in
theorem SliderWhole_law {W0 : World} {g : GG} (hG : GOk (Low W0) g) (hcap : g.ns.length ≤ g.nc) {x0 x1 : Int} (hx0 : 0 ≤ x0 ∧ x0 ≤ 255) (hx1 : 0 ≤ x1 ∧ x1 ≤ 255) :
    Does Try.prog 5 [gV g, .agg #[.int .u8 x0, .int .u8 x1]] [Low W0] (fun v l => v = .bool true ∧ l = [Low W0]) := by
  refine Does.of tiok Try.func5 (by kernel_rfl) rfl Try.ntmps5 rfl ?_
  intro W fr
  repeat' (first | (refine IsO ?_; first | refine JO_nil ?_ | (refine IsG ?_; refine G1 rfl rfl ?_) | (refine IsMove ?_; first | refine M1 rfl rfl rfl ?_ | refine M2 rfl rfl rfl ?_ | refine M4 rfl rfl rfl ?_) | (refine IsBin ?_; first | refine B1 rfl rfl rfl rfl ?_ | refine B3 rfl rfl rfl rfl ?_ | refine B6 rfl rfl rfl rfl ?_ | refine B9 rfl rfl rfl rfl rfl rfl rfl ?_) | (refine IsConv ?_; refine C1 rfl rfl rfl rfl rfl ?_) | (refine IsLoad ?_; first | refine L1 rfl rfl rfl rfl ?_ | refine L2 rfl rfl rfl rfl rfl ?_) | (refine IsStore ?_; refine S1 rfl rfl rfl rfl rfl rfl rfl (fun _ => ?_)) | (refine IsBox ?_; refine N1 rfl rfl rfl rfl (fun _ => ?_)) | (refine IsAlloc ?_; refine N2 rfl rfl rfl rfl (fun _ => ?_)) | refine V1 rfl rfl rfl ?_) | (refine IsAt ?_; first | (with_reducible first | refine T1 ?_ | refine T2 ?_ | refine T3 ?_ | refine T5 ?_ | refine T6 ?_) | ((with_reducible show At _ (PBlock _ _ (Exit.exit _)) _ _); refine At_block_hit ?_)) | (refine IsJ ?_; first | refine J_seq ?_ | refine J_region ?_ | refine J_block ?_ | refine J_skip ?_ | refine J_ret ?_ | refine J_exit ?_ | (refine IsCond ?_; first | refine J_cond_t rfl ?_ | refine J_cond_f rfl ?_ | refine K4 rfl ?_ | refine J_cb rfl (fun _ => ?_) (fun _ => ?_))))
  refine JO_l (OL_call [] rfl rfl rfl (awake14_spec) rfl) rfl rfl ?_; rintro _ _ ⟨_, ⟨rfl, rfl⟩, rfl⟩
  repeat' (first | (refine IsO ?_; first | refine JO_nil ?_ | (refine IsG ?_; refine G1 rfl rfl ?_) | (refine IsMove ?_; first | refine M1 rfl rfl rfl ?_ | refine M2 rfl rfl rfl ?_ | refine M4 rfl rfl rfl ?_) | (refine IsBin ?_; first | refine B1 rfl rfl rfl rfl ?_ | refine B3 rfl rfl rfl rfl ?_ | refine B6 rfl rfl rfl rfl ?_ | refine B9 rfl rfl rfl rfl rfl rfl rfl ?_) | (refine IsConv ?_; refine C1 rfl rfl rfl rfl rfl ?_) | (refine IsLoad ?_; first | refine L1 rfl rfl rfl rfl ?_ | refine L2 rfl rfl rfl rfl rfl ?_) | (refine IsStore ?_; refine S1 rfl rfl rfl rfl rfl rfl rfl (fun _ => ?_)) | (refine IsBox ?_; refine N1 rfl rfl rfl rfl (fun _ => ?_)) | (refine IsAlloc ?_; refine N2 rfl rfl rfl rfl (fun _ => ?_)) | refine V1 rfl rfl rfl ?_) | (refine IsAt ?_; first | (with_reducible first | refine T1 ?_ | refine T2 ?_ | refine T3 ?_ | refine T5 ?_ | refine T6 ?_) | ((with_reducible show At _ (PBlock _ _ (Exit.exit _)) _ _); refine At_block_hit ?_)) | (refine IsJ ?_; first | refine J_seq ?_ | refine J_region ?_ | refine J_block ?_ | refine J_skip ?_ | refine J_ret ?_ | refine J_exit ?_ | (refine IsCond ?_; first | refine J_cond_t rfl ?_ | refine J_cond_f rfl ?_ | refine K4 rfl ?_ | refine J_cb rfl (fun _ => ?_) (fun _ => ?_))))
  refine JO_l (OL_call [2] rfl rfl rfl (Few_spec hG) rfl) rfl rfl ?_; rintro _ _ ⟨_, ⟨rfl, rfl⟩, rfl⟩
  cases hf0 : fewB g with
  | false =>
    repeat' (first | (refine IsO ?_; first | refine JO_nil ?_ | (refine IsG ?_; refine G1 rfl rfl ?_) | (refine IsMove ?_; first | refine M1 rfl rfl rfl ?_ | refine M2 rfl rfl rfl ?_ | refine M4 rfl rfl rfl ?_) | (refine IsBin ?_; first | refine B1 rfl rfl rfl rfl ?_ | refine B3 rfl rfl rfl rfl ?_ | refine B6 rfl rfl rfl rfl ?_ | refine B9 rfl rfl rfl rfl rfl rfl rfl ?_) | (refine IsConv ?_; refine C1 rfl rfl rfl rfl rfl ?_) | (refine IsLoad ?_; first | refine L1 rfl rfl rfl rfl ?_ | refine L2 rfl rfl rfl rfl rfl ?_) | (refine IsStore ?_; refine S1 rfl rfl rfl rfl rfl rfl rfl (fun _ => ?_)) | (refine IsBox ?_; refine N1 rfl rfl rfl rfl (fun _ => ?_)) | (refine IsAlloc ?_; refine N2 rfl rfl rfl rfl (fun _ => ?_)) | refine V1 rfl rfl rfl ?_) | (refine IsAt ?_; first | (with_reducible first | refine T1 ?_ | refine T2 ?_ | refine T3 ?_ | refine T5 ?_ | refine T6 ?_) | ((with_reducible show At _ (PBlock _ _ (Exit.exit _)) _ _); refine At_block_hit ?_)) | (refine IsJ ?_; first | refine J_seq ?_ | refine J_region ?_ | refine J_block ?_ | refine J_skip ?_ | refine J_ret ?_ | refine J_exit ?_ | (refine IsCond ?_; first | refine J_cond_t rfl ?_ | refine J_cond_f rfl ?_ | refine K4 rfl ?_ | refine J_cb rfl (fun _ => ?_) (fun _ => ?_))))
    refine JO_l (OL_call [] rfl rfl rfl (awake14_spec) rfl) rfl rfl ?_; rintro _ _ ⟨_, ⟨rfl, rfl⟩, rfl⟩
    repeat' (first | (refine IsO ?_; first | refine JO_nil ?_ | (refine IsG ?_; refine G1 rfl rfl ?_) | (refine IsMove ?_; first | refine M1 rfl rfl rfl ?_ | refine M2 rfl rfl rfl ?_ | refine M4 rfl rfl rfl ?_) | (refine IsBin ?_; first | refine B1 rfl rfl rfl rfl ?_ | refine B3 rfl rfl rfl rfl ?_ | refine B6 rfl rfl rfl rfl ?_ | refine B9 rfl rfl rfl rfl rfl rfl rfl ?_) | (refine IsConv ?_; refine C1 rfl rfl rfl rfl rfl ?_) | (refine IsLoad ?_; first | refine L1 rfl rfl rfl rfl ?_ | refine L2 rfl rfl rfl rfl rfl ?_) | (refine IsStore ?_; refine S1 rfl rfl rfl rfl rfl rfl rfl (fun _ => ?_)) | (refine IsBox ?_; refine N1 rfl rfl rfl rfl (fun _ => ?_)) | (refine IsAlloc ?_; refine N2 rfl rfl rfl rfl (fun _ => ?_)) | refine V1 rfl rfl rfl ?_) | (refine IsAt ?_; first | (with_reducible first | refine T1 ?_ | refine T2 ?_ | refine T3 ?_ | refine T5 ?_ | refine T6 ?_) | ((with_reducible show At _ (PBlock _ _ (Exit.exit _)) _ _); refine At_block_hit ?_)) | (refine IsJ ?_; first | refine J_seq ?_ | refine J_region ?_ | refine J_block ?_ | refine J_skip ?_ | refine J_ret ?_ | refine J_exit ?_ | (refine IsCond ?_; first | refine J_cond_t rfl ?_ | refine J_cond_f rfl ?_ | refine K4 rfl ?_ | refine J_cb rfl (fun _ => ?_) (fun _ => ?_))))
    exact At_ret rfl rfl (.tmp rfl .nil) rfl (is := [0]) rfl ⟨rfl, rfl⟩
  | true =>
  obtain ⟨k, hk⟩ : ∃ k, k = min g.ns.length 2 := ⟨_, rfl⟩
  have hG2 := GOk.cut hG (k := k) (by omega)
  have hf := few_cut hf0 k
  have h15 := lay_two (ns := (cutG g k).ns) (by show (g.ns.take k).length ≤ 2; rw [List.length_take]; omega)
  obtain ⟨hn14, hr14, he10, hnd224⟩ := few_need hG2 hf
  repeat' (first | (refine IsO ?_; first | refine JO_nil ?_ | (refine IsG ?_; refine G1 rfl rfl ?_) | (refine IsMove ?_; first | refine M1 rfl rfl rfl ?_ | refine M2 rfl rfl rfl ?_ | refine M4 rfl rfl rfl ?_) | (refine IsBin ?_; first | refine B1 rfl rfl rfl rfl ?_ | refine B3 rfl rfl rfl rfl ?_ | refine B6 rfl rfl rfl rfl ?_ | refine B9 rfl rfl rfl rfl rfl rfl rfl ?_) | (refine IsConv ?_; refine C1 rfl rfl rfl rfl rfl ?_) | (refine IsLoad ?_; first | refine L1 rfl rfl rfl rfl ?_ | refine L2 rfl rfl rfl rfl rfl ?_) | (refine IsStore ?_; refine S1 rfl rfl rfl rfl rfl rfl rfl (fun _ => ?_)) | (refine IsBox ?_; refine N1 rfl rfl rfl rfl (fun _ => ?_)) | (refine IsAlloc ?_; refine N2 rfl rfl rfl rfl (fun _ => ?_)) | refine V1 rfl rfl rfl ?_) | (refine IsAt ?_; first | (with_reducible first | refine T1 ?_ | refine T2 ?_ | refine T3 ?_ | refine T5 ?_ | refine T6 ?_) | ((with_reducible show At _ (PBlock _ _ (Exit.exit _)) _ _); refine At_block_hit ?_)) | (refine IsJ ?_; first | refine J_seq ?_ | refine J_region ?_ | refine J_block ?_ | refine J_skip ?_ | refine J_ret ?_ | refine J_exit ?_ | (refine IsCond ?_; first | refine J_cond_t rfl ?_ | refine J_cond_f rfl ?_ | refine K4 rfl ?_ | refine J_cb rfl (fun _ => ?_) (fun _ => ?_))))
  have hck : (cutG g k).ns.length = k := by show (g.ns.take k).length = k; rw [List.length_take]; omega
  rw [show (if (2 : Int) < (g.ns.length : Int) then (2 : Int) else (g.ns.length : Int)) = (((cutG g k).ns.length : Nat) : Int) by rw [hck]; split <;> omega]
  refine JO_val (v := .slice g.na (cutG g k).ns.length g.nc) (OV_slice (cap := g.nc) (m := 0) (n := (((cutG g k).ns.length : Nat) : Int)) (p' := g.na) rfl rfl rfl rfl rfl rfl rfl (by omega) (by omega) (by omega) (by cases g.na <;> simp [Addr.add])) rfl rfl ?_
  repeat' (first | (refine IsO ?_; first | refine JO_nil ?_ | (refine IsG ?_; refine G1 rfl rfl ?_) | (refine IsMove ?_; first | refine M1 rfl rfl rfl ?_ | refine M2 rfl rfl rfl ?_ | refine M4 rfl rfl rfl ?_) | (refine IsBin ?_; first | refine B1 rfl rfl rfl rfl ?_ | refine B3 rfl rfl rfl rfl ?_ | refine B6 rfl rfl rfl rfl ?_ | refine B9 rfl rfl rfl rfl rfl rfl rfl ?_) | (refine IsConv ?_; refine C1 rfl rfl rfl rfl rfl ?_) | (refine IsLoad ?_; first | refine L1 rfl rfl rfl rfl ?_ | refine L2 rfl rfl rfl rfl rfl ?_) | (refine IsStore ?_; refine S1 rfl rfl rfl rfl rfl rfl rfl (fun _ => ?_)) | (refine IsBox ?_; refine N1 rfl rfl rfl rfl (fun _ => ?_)) | (refine IsAlloc ?_; refine N2 rfl rfl rfl rfl (fun _ => ?_)) | refine V1 rfl rfl rfl ?_) | (refine IsAt ?_; first | (with_reducible first | refine T1 ?_ | refine T2 ?_ | refine T3 ?_ | refine T5 ?_ | refine T6 ?_) | ((with_reducible show At _ (PBlock _ _ (Exit.exit _)) _ _); refine At_block_hit ?_)) | (refine IsJ ?_; first | refine J_seq ?_ | refine J_region ?_ | refine J_block ?_ | refine J_skip ?_ | refine J_ret ?_ | refine J_exit ?_ | (refine IsCond ?_; first | refine J_cond_t rfl ?_ | refine J_cond_f rfl ?_ | refine K4 rfl ?_ | refine J_cb rfl (fun _ => ?_) (fun _ => ?_))))
  have hB3 : Does Try.prog 9 [gV (cutG g k), .int .i64 1] [Low W0] _ := Build_spec hG2 hf 1 (by omega)
  refine JO_l (OL_call [1] rfl rfl rfl (hB3) rfl) rfl rfl ?_; rintro _ _ ⟨_, ⟨p, bw, bs, n, T, ws, st, a, cap, os, ra, rc, hB, hn, hT, rfl, rfl⟩, rfl⟩
  clear hB3
  have htn := hB.ht.tn
  have hnb := hB.ht.nb
  have hlen := hB.ch.len
  repeat' (first | (refine IsO ?_; first | refine JO_nil ?_ | (refine IsG ?_; refine G1 rfl rfl ?_) | (refine IsMove ?_; first | refine M1 rfl rfl rfl ?_ | refine M2 rfl rfl rfl ?_ | refine M4 rfl rfl rfl ?_) | (refine IsBin ?_; first | refine B1 rfl rfl rfl rfl ?_ | refine B3 rfl rfl rfl rfl ?_ | refine B6 rfl rfl rfl rfl ?_ | refine B9 rfl rfl rfl rfl rfl rfl rfl ?_) | (refine IsConv ?_; refine C1 rfl rfl rfl rfl rfl ?_) | (refine IsLoad ?_; first | refine L1 rfl rfl rfl rfl ?_ | refine L2 rfl rfl rfl rfl rfl ?_) | (refine IsStore ?_; refine S1 rfl rfl rfl rfl rfl rfl rfl (fun _ => ?_)) | (refine IsBox ?_; refine N1 rfl rfl rfl rfl (fun _ => ?_)) | (refine IsAlloc ?_; refine N2 rfl rfl rfl rfl (fun _ => ?_)) | refine V1 rfl rfl rfl ?_) | (refine IsAt ?_; first | (with_reducible first | refine T1 ?_ | refine T2 ?_ | refine T3 ?_ | refine T5 ?_ | refine T6 ?_) | ((with_reducible show At _ (PBlock _ _ (Exit.exit _)) _ _); refine At_block_hit ?_)) | (refine IsJ ?_; first | refine J_seq ?_ | refine J_region ?_ | refine J_block ?_ | refine J_skip ?_ | refine J_ret ?_ | refine J_exit ?_ | (refine IsCond ?_; first | refine J_cond_t rfl ?_ | refine J_cond_f rfl ?_ | refine K4 rfl ?_ | refine J_cb rfl (fun _ => ?_) (fun _ => ?_))))
  refine JO_l (OL_call [1, 1, 1] rfl rfl rfl heapSize rfl) rfl rfl ?_
  rintro _ _ ⟨_, ⟨rfl, rfl⟩, rfl⟩
  repeat' (first | (refine IsO ?_; first | refine JO_nil ?_ | (refine IsG ?_; refine G1 rfl rfl ?_) | (refine IsMove ?_; first | refine M1 rfl rfl rfl ?_ | refine M2 rfl rfl rfl ?_ | refine M4 rfl rfl rfl ?_) | (refine IsBin ?_; first | refine B1 rfl rfl rfl rfl ?_ | refine B3 rfl rfl rfl rfl ?_ | refine B6 rfl rfl rfl rfl ?_ | refine B9 rfl rfl rfl rfl rfl rfl rfl ?_) | (refine IsConv ?_; refine C1 rfl rfl rfl rfl rfl ?_) | (refine IsLoad ?_; first | refine L1 rfl rfl rfl rfl ?_ | refine L2 rfl rfl rfl rfl rfl ?_) | (refine IsStore ?_; refine S1 rfl rfl rfl rfl rfl rfl rfl (fun _ => ?_)) | (refine IsBox ?_; refine N1 rfl rfl rfl rfl (fun _ => ?_)) | (refine IsAlloc ?_; refine N2 rfl rfl rfl rfl (fun _ => ?_)) | refine V1 rfl rfl rfl ?_) | (refine IsAt ?_; first | (with_reducible first | refine T1 ?_ | refine T2 ?_ | refine T3 ?_ | refine T5 ?_ | refine T6 ?_) | ((with_reducible show At _ (PBlock _ _ (Exit.exit _)) _ _); refine At_block_hit ?_)) | (refine IsJ ?_; first | refine J_seq ?_ | refine J_region ?_ | refine J_block ?_ | refine J_skip ?_ | refine J_ret ?_ | refine J_exit ?_ | (refine IsCond ?_; first | refine J_cond_t rfl ?_ | refine J_cond_f rfl ?_ | refine K4 rfl ?_ | refine J_cb rfl (fun _ => ?_) (fun _ => ?_))))
  have hN : Does Try.prog 10 [.int .i64 n] [] _ := marksNew n (by omega) hnb
  refine JO_l (OL_call [] rfl rfl rfl (hN) rfl) rfl rfl ?_; rintro _ _ ⟨_, ⟨pm, bm, rfl, rfl⟩, rfl⟩
  repeat' (first | (refine IsO ?_; first | refine JO_nil ?_ | (refine IsG ?_; refine G1 rfl rfl ?_) | (refine IsMove ?_; first | refine M1 rfl rfl rfl ?_ | refine M2 rfl rfl rfl ?_ | refine M4 rfl rfl rfl ?_) | (refine IsBin ?_; first | refine B1 rfl rfl rfl rfl ?_ | refine B3 rfl rfl rfl rfl ?_ | refine B6 rfl rfl rfl rfl ?_ | refine B9 rfl rfl rfl rfl rfl rfl rfl ?_) | (refine IsConv ?_; refine C1 rfl rfl rfl rfl rfl ?_) | (refine IsLoad ?_; first | refine L1 rfl rfl rfl rfl ?_ | refine L2 rfl rfl rfl rfl rfl ?_) | (refine IsStore ?_; refine S1 rfl rfl rfl rfl rfl rfl rfl (fun _ => ?_)) | (refine IsBox ?_; refine N1 rfl rfl rfl rfl (fun _ => ?_)) | (refine IsAlloc ?_; refine N2 rfl rfl rfl rfl (fun _ => ?_)) | refine V1 rfl rfl rfl ?_) | (refine IsAt ?_; first | (with_reducible first | refine T1 ?_ | refine T2 ?_ | refine T3 ?_ | refine T5 ?_ | refine T6 ?_) | ((with_reducible show At _ (PBlock _ _ (Exit.exit _)) _ _); refine At_block_hit ?_)) | (refine IsJ ?_; first | refine J_seq ?_ | refine J_region ?_ | refine J_block ?_ | refine J_skip ?_ | refine J_ret ?_ | refine J_exit ?_ | (refine IsCond ?_; first | refine J_cond_t rfl ?_ | refine J_cond_f rfl ?_ | refine K4 rfl ?_ | refine J_cb rfl (fun _ => ?_) (fun _ => ?_))))
  rename_i bg bx _ b10 _ b8 _
  have hM0 : MI n (List.replicate ((n + 63) / 64) 0) := MI.new hnb
  refine JO_l (OL_call [] rfl rfl rfl (Walk_spec) rfl) rfl rfl ?_; rintro _ _ ⟨_, ⟨bh, rfl, rfl⟩, rfl⟩
  repeat' (first | (refine IsO ?_; first | refine JO_nil ?_ | (refine IsG ?_; refine G1 rfl rfl ?_) | (refine IsMove ?_; first | refine M1 rfl rfl rfl ?_ | refine M2 rfl rfl rfl ?_ | refine M4 rfl rfl rfl ?_) | (refine IsBin ?_; first | refine B1 rfl rfl rfl rfl ?_ | refine B3 rfl rfl rfl rfl ?_ | refine B6 rfl rfl rfl rfl ?_ | refine B9 rfl rfl rfl rfl rfl rfl rfl ?_) | (refine IsConv ?_; refine C1 rfl rfl rfl rfl rfl ?_) | (refine IsLoad ?_; first | refine L1 rfl rfl rfl rfl ?_ | refine L2 rfl rfl rfl rfl rfl ?_) | (refine IsStore ?_; refine S1 rfl rfl rfl rfl rfl rfl rfl (fun _ => ?_)) | (refine IsBox ?_; refine N1 rfl rfl rfl rfl (fun _ => ?_)) | (refine IsAlloc ?_; refine N2 rfl rfl rfl rfl (fun _ => ?_)) | refine V1 rfl rfl rfl ?_) | (refine IsAt ?_; first | (with_reducible first | refine T1 ?_ | refine T2 ?_ | refine T3 ?_ | refine T5 ?_ | refine T6 ?_) | ((with_reducible show At _ (PBlock _ _ (Exit.exit _)) _ _); refine At_block_hit ?_)) | (refine IsJ ?_; first | refine J_seq ?_ | refine J_region ?_ | refine J_block ?_ | refine J_skip ?_ | refine J_ret ?_ | refine J_exit ?_ | (refine IsCond ?_; first | refine J_cond_t rfl ?_ | refine J_cond_f rfl ?_ | refine K4 rfl ?_ | refine J_cb rfl (fun _ => ?_) (fun _ => ?_))))
  let Y : List Nat → List HP := fun ms => blk b8 [ptr pm 0] 36 :: marksL pm bm n ms
  let Inv : Nat → List Nat → Prop := fun i ms => MI n ms ∧ ∃ j, j ≤ os.length ∧ posAt os T j = i ∧ ∀ (j' : Nat) (o : RO), j' < j → os[j']? = some o → bitB ms o.i = true
  have hy : ∀ (i : Nat) (w : Int) (s : List Nat), Inv i s → st[i]? = some true → ws[i]? = some w → wordB w = true → i + 1 + (unN w).toNat ≤ T →
      DoesV Try.prog (.func (.func 26) #[] #[ptr b8 0]) [.int .i64 i, headV (unK w) (unN w) (unP w)] (heapL p bw bs n ws T st ++ Y s)
        (fun v l => (v = .bool true ∧ ∃ s', Inv (i + 1 + (unN w).toNat) s' ∧ l = heapL p bw bs n ws T st ++ Y s') ∨ (v = .bool false ∧ ∃ s' : List Nat, False ∧ l = heapL p bw bs n ws T st ++ Y s')) := by
    rintro i w ms ⟨hM, j, hj, hp, hI⟩ hs hw _ _
    have hit := hB.ht.lt hs
    have hjl : j < os.length := by
      rcases Nat.lt_or_ge j os.length with e | e
      · exact e
      · obtain rfl : j = os.length := by omega
        rw [posAt_end] at hp; omega
    obtain ⟨o, ho⟩ : ∃ o, os[j]? = some o := ⟨os[j], List.getElem?_eq_getElem _⟩
    have hoi : o.i = i := by rw [← hp, posAt_of ho]
    have hpn := hB.ch.pos ho
    have hat := (hB.ch.at ho).2
    have hxo := hat.2.2.1
    rw [hoi, hw] at hxo
    injection hxo with hxo
    obtain ⟨_, _, u1, u2, u3⟩ := packI_un hat.2.1
    rw [← hxo] at u1 u2 u3
    refine DoesV.of (Does.mono ((Whole1_spec (bt := b8) (pm := pm) (bm := bm) hM (show i < n by omega)).fr (heapL p bw bs n ws T st)) ?_)
    rintro v l ⟨l1, ⟨rfl, rfl⟩, rfl⟩
    refine .inl ⟨rfl, setM ms i, ⟨hM.set (by omega), j + 1, hjl, by rw [hpn, u2, Int.toNat_natCast]; omega, fun j' o' hj' ho' => ?_⟩, rfl⟩
    rw [bitB_set hM (by omega), Bool.or_eq_true]
    by_cases e : j' = j
    · subst e
      rw [ho] at ho'; injection ho' with ho'; subst ho'
      exact .inr (decide_eq_true hoi)
    · exact .inl (hI j' o' (by omega) ho')
  refine JO_l (OL_call [0, 3, 3, 3, 0, 0, 0] rfl rfl rfl (walkGen (bh := bh) _ Y Inv _ hB.ht hy (List.replicate ((n + 63) / 64) 0) ⟨hM0, 0, Nat.zero_le _, hB.ch.pos0, fun j' o hj' => absurd hj' (Nat.not_lt_zero _)⟩) rfl) rfl rfl ?_; rintro _ _ ⟨_, ⟨ms, hms, rfl, rfl⟩, rfl⟩
  obtain ⟨hM, j, hj, hjp, hbit⟩ : Inv T ms := hms.resolve_right (fun h => h)
  have hje : j = os.length := hB.ch.pos_T hj hjp
  have ha : ∀ o ∈ os, lvB ms o = true := by
    intro o ho
    obtain ⟨j', hj'⟩ := List.getElem?_of_mem ho
    have hjl := (List.getElem?_eq_some_iff.1 hj').1
    have h15o : o.k ≠ 15 := h15 _ (by rw [← hB.hd]; exact List.mem_map.2 ⟨o, ho, rfl⟩)
    unfold lvB
    rw [Bool.and_eq_true]
    exact ⟨decide_eq_true h15o, hbit j' o (by omega) hj'⟩
  have hNW := NWI_whole hB.ht hB.ch hB.ro ha
  have hsT := szL_all hB.ch ha
  have hld := LeadP.of hB.ht hB.ch hB.ro
  have hr : RightP ms os := by
    intro j o ho hl k y hk hy
    rcases leads_obj hB.ht hB.ch hB.ro ho hk hy with h0 | ⟨j2, o2, hj2, he2, h15⟩
    · exact .inl h0
    · exact .inr ⟨j2, o2, hj2, ha o2 (List.mem_of_getElem? hj2), by omega⟩
  repeat' (first | (refine IsO ?_; first | refine JO_nil ?_ | (refine IsG ?_; refine G1 rfl rfl ?_) | (refine IsMove ?_; first | refine M1 rfl rfl rfl ?_ | refine M2 rfl rfl rfl ?_ | refine M4 rfl rfl rfl ?_) | (refine IsBin ?_; first | refine B1 rfl rfl rfl rfl ?_ | refine B3 rfl rfl rfl rfl ?_ | refine B6 rfl rfl rfl rfl ?_ | refine B9 rfl rfl rfl rfl rfl rfl rfl ?_) | (refine IsConv ?_; refine C1 rfl rfl rfl rfl rfl ?_) | (refine IsLoad ?_; first | refine L1 rfl rfl rfl rfl ?_ | refine L2 rfl rfl rfl rfl rfl ?_) | (refine IsStore ?_; refine S1 rfl rfl rfl rfl rfl rfl rfl (fun _ => ?_)) | (refine IsBox ?_; refine N1 rfl rfl rfl rfl (fun _ => ?_)) | (refine IsAlloc ?_; refine N2 rfl rfl rfl rfl (fun _ => ?_)) | refine V1 rfl rfl rfl ?_) | (refine IsAt ?_; first | (with_reducible first | refine T1 ?_ | refine T2 ?_ | refine T3 ?_ | refine T5 ?_ | refine T6 ?_) | ((with_reducible show At _ (PBlock _ _ (Exit.exit _)) _ _); refine At_block_hit ?_)) | (refine IsJ ?_; first | refine J_seq ?_ | refine J_region ?_ | refine J_block ?_ | refine J_skip ?_ | refine J_ret ?_ | refine J_exit ?_ | (refine IsCond ?_; first | refine J_cond_t rfl ?_ | refine J_cond_f rfl ?_ | refine K4 rfl ?_ | refine J_cb rfl (fun _ => ?_) (fun _ => ?_))))
  refine JO_val (OV_idxA (off := 0) rfl rfl rfl rfl (by omega) (by decide) (by rfl)) rfl rfl ?_
  repeat' (first | (refine IsO ?_; first | refine JO_nil ?_ | (refine IsG ?_; refine G1 rfl rfl ?_) | (refine IsMove ?_; first | refine M1 rfl rfl rfl ?_ | refine M2 rfl rfl rfl ?_ | refine M4 rfl rfl rfl ?_) | (refine IsBin ?_; first | refine B1 rfl rfl rfl rfl ?_ | refine B3 rfl rfl rfl rfl ?_ | refine B6 rfl rfl rfl rfl ?_ | refine B9 rfl rfl rfl rfl rfl rfl rfl ?_) | (refine IsConv ?_; refine C1 rfl rfl rfl rfl rfl ?_) | (refine IsLoad ?_; first | refine L1 rfl rfl rfl rfl ?_ | refine L2 rfl rfl rfl rfl rfl ?_) | (refine IsStore ?_; refine S1 rfl rfl rfl rfl rfl rfl rfl (fun _ => ?_)) | (refine IsBox ?_; refine N1 rfl rfl rfl rfl (fun _ => ?_)) | (refine IsAlloc ?_; refine N2 rfl rfl rfl rfl (fun _ => ?_)) | refine V1 rfl rfl rfl ?_) | (refine IsAt ?_; first | (with_reducible first | refine T1 ?_ | refine T2 ?_ | refine T3 ?_ | refine T5 ?_ | refine T6 ?_) | ((with_reducible show At _ (PBlock _ _ (Exit.exit _)) _ _); refine At_block_hit ?_)) | (refine IsJ ?_; first | refine J_seq ?_ | refine J_region ?_ | refine J_block ?_ | refine J_skip ?_ | refine J_ret ?_ | refine J_exit ?_ | (refine IsCond ?_; first | refine J_cond_t rfl ?_ | refine J_cond_f rfl ?_ | refine K4 rfl ?_ | refine J_cb rfl (fun _ => ?_) (fun _ => ?_))))
  refine JO_val (OV_idxA (off := 1) rfl rfl rfl rfl (by omega) (by decide) (by rfl)) rfl rfl ?_
  repeat' (first | (refine IsO ?_; first | refine JO_nil ?_ | (refine IsG ?_; refine G1 rfl rfl ?_) | (refine IsMove ?_; first | refine M1 rfl rfl rfl ?_ | refine M2 rfl rfl rfl ?_ | refine M4 rfl rfl rfl ?_) | (refine IsBin ?_; first | refine B1 rfl rfl rfl rfl ?_ | refine B3 rfl rfl rfl rfl ?_ | refine B6 rfl rfl rfl rfl ?_ | refine B9 rfl rfl rfl rfl rfl rfl rfl ?_) | (refine IsConv ?_; refine C1 rfl rfl rfl rfl rfl ?_) | (refine IsLoad ?_; first | refine L1 rfl rfl rfl rfl ?_ | refine L2 rfl rfl rfl rfl rfl ?_) | (refine IsStore ?_; refine S1 rfl rfl rfl rfl rfl rfl rfl (fun _ => ?_)) | (refine IsBox ?_; refine N1 rfl rfl rfl rfl (fun _ => ?_)) | (refine IsAlloc ?_; refine N2 rfl rfl rfl rfl (fun _ => ?_)) | refine V1 rfl rfl rfl ?_) | (refine IsAt ?_; first | (with_reducible first | refine T1 ?_ | refine T2 ?_ | refine T3 ?_ | refine T5 ?_ | refine T6 ?_) | ((with_reducible show At _ (PBlock _ _ (Exit.exit _)) _ _); refine At_block_hit ?_)) | (refine IsJ ?_; first | refine J_seq ?_ | refine J_region ?_ | refine J_block ?_ | refine J_skip ?_ | refine J_ret ?_ | refine J_exit ?_ | (refine IsCond ?_; first | refine J_cond_t rfl ?_ | refine J_cond_f rfl ?_ | refine K4 rfl ?_ | refine J_cb rfl (fun _ => ?_) (fun _ => ?_))))
  obtain ⟨wk, hwk⟩ : ∃ wk : Nat, 1 + x0 % 7 = (wk : Int) := ⟨(1 + x0 % 7).toNat, by omega⟩
  rw [hwk]
  have hBnd : 10 * (n + 10) * (n + 10) ≤ 1000000000 := by
    have hb : (n + 10) * (n + 10) ≤ 1000 * 1000 := Nat.mul_le_mul (by omega) (by omega)
    rw [Nat.mul_assoc]; omega
  obtain ⟨Bnd, hBe⟩ : ∃ Bnd, Bnd = 10 * (n + 10) * (n + 10) := ⟨_, rfl⟩
  have hBI : (10 * ((n : Int) + 10)) * ((n : Int) + 10) = (Bnd : Int) := by rw [hBe]; simp
  rw [← hBe] at hBnd
  refine JO_l (OL_call [1, 1, 1, 2, 2] rfl rfl rfl (New_run (p := p) (bw := bw) (bs := bs) (pm := pm) (bm := bm) (x1 % 20) wk (by omega) (by constructor <;> omega) hB.ht hB.ch hM hld hr (by omega) (by omega)) rfl) rfl rfl ?_
  rintro _ _ ⟨_, ⟨ps, pf, w, nR, bst, bf, pw, bw2, pz, bz, rs, fs, wa, wc, s0, F, hs0, hPhi0, htv0, hmv0, rfl, rfl⟩, rfl⟩
  rw [← hBe] at hPhi0
  repeat' (first | (refine IsO ?_; first | refine JO_nil ?_ | (refine IsG ?_; refine G1 rfl rfl ?_) | (refine IsMove ?_; first | refine M1 rfl rfl rfl ?_ | refine M2 rfl rfl rfl ?_ | refine M4 rfl rfl rfl ?_) | (refine IsBin ?_; first | refine B1 rfl rfl rfl rfl ?_ | refine B3 rfl rfl rfl rfl ?_ | refine B6 rfl rfl rfl rfl ?_ | refine B9 rfl rfl rfl rfl rfl rfl rfl ?_) | (refine IsConv ?_; refine C1 rfl rfl rfl rfl rfl ?_) | (refine IsLoad ?_; first | refine L1 rfl rfl rfl rfl ?_ | refine L2 rfl rfl rfl rfl rfl ?_) | (refine IsStore ?_; refine S1 rfl rfl rfl rfl rfl rfl rfl (fun _ => ?_)) | (refine IsBox ?_; refine N1 rfl rfl rfl rfl (fun _ => ?_)) | (refine IsAlloc ?_; refine N2 rfl rfl rfl rfl (fun _ => ?_)) | refine V1 rfl rfl rfl ?_) | (refine IsAt ?_; first | (with_reducible first | refine T1 ?_ | refine T2 ?_ | refine T3 ?_ | refine T5 ?_ | refine T6 ?_) | ((with_reducible show At _ (PBlock _ _ (Exit.exit _)) _ _); refine At_block_hit ?_)) | (refine IsJ ?_; first | refine J_seq ?_ | refine J_region ?_ | refine J_block ?_ | refine J_skip ?_ | refine J_ret ?_ | refine J_exit ?_ | (refine IsCond ?_; first | refine J_cond_t rfl ?_ | refine J_cond_f rfl ?_ | refine K4 rfl ?_ | refine J_cb rfl (fun _ => ?_) (fun _ => ?_))))
  refine J_loop (α := Nat × RSt) (fun x => x.1 ≤ Bnd ∧ ROk n T w nR ws os ms wk x.2 ∧ x.2.tv ≤ 64 * x.1 ∧ (ROv T nR os ms x.2 ∨ x.1 + RPhi T w nR ws os ms x.2 < Bnd))
    (fun x => [(5, ptr p 0), (10, .int .i64 wk), (11, ptr ps 0), (13, .int .i64 x.1)]) (fun x => sldR ps pf p bw bs pm bm bst bf n T w nR pw bw2 pz bz ws st ms rs fs wa wc (szL (lvs ms os)) x.2 ++ [Low W0]) (fun x => Bnd - x.1) (0, s0) ⟨Nat.zero_le _, hs0, by dsimp only; omega, .inr (by rw [Nat.zero_add]; exact hPhi0)⟩ (by repeat (first | exact True.intro | refine And.intro rfl ?_)) (fun H hl => hl.pick (is := [0, 0, 0, 0, 0, 0, 0, 0, 0, 0, 0, 0, 0, 0, 6]) rfl) ?_
  rintro ⟨k, s⟩ ⟨hkB, hs, htv, hov⟩
  dsimp only at hkB hs htv hov ⊢
  apply J_tail (α := RSt) (fun s => ROk n T w nR ws os ms wk s ∧ ROv T nR os ms s) (fun _ => [(5, ptr p 0), (10, .int .i64 wk), (11, ptr ps 0)]) (fun s => sldR ps pf p bw bs pm bm bst bf n T w nR pw bw2 pz bz ws st ms rs fs wa wc (szL (lvs ms os)) s ++ [Low W0])
  · intro hT
    repeat' (first | (refine IsO ?_; first | refine JO_nil ?_ | (refine IsG ?_; refine G1 rfl rfl ?_) | (refine IsMove ?_; first | refine M1 rfl rfl rfl ?_ | refine M2 rfl rfl rfl ?_ | refine M4 rfl rfl rfl ?_) | (refine IsBin ?_; first | refine B1 rfl rfl rfl rfl ?_ | refine B3 rfl rfl rfl rfl ?_ | refine B6 rfl rfl rfl rfl ?_ | refine B9 rfl rfl rfl rfl rfl rfl rfl ?_) | (refine IsConv ?_; refine C1 rfl rfl rfl rfl rfl ?_) | (refine IsLoad ?_; first | refine L1 rfl rfl rfl rfl ?_ | refine L2 rfl rfl rfl rfl rfl ?_) | (refine IsStore ?_; refine S1 rfl rfl rfl rfl rfl rfl rfl (fun _ => ?_)) | (refine IsBox ?_; refine N1 rfl rfl rfl rfl (fun _ => ?_)) | (refine IsAlloc ?_; refine N2 rfl rfl rfl rfl (fun _ => ?_)) | refine V1 rfl rfl rfl ?_) | (refine IsAt ?_; first | (with_reducible first | refine T1 ?_ | refine T2 ?_ | refine T3 ?_ | refine T5 ?_ | refine T6 ?_) | ((with_reducible show At _ (PBlock _ _ (Exit.exit _)) _ _); refine At_block_hit ?_)) | (refine IsJ ?_; first | refine J_seq ?_ | refine J_region ?_ | refine J_skip ?_ | refine J_ret ?_ | refine J_exit ?_ | (refine IsCond ?_; first | refine J_cond_t rfl ?_ | refine J_cond_f rfl ?_ | refine K4 rfl ?_ | refine J_cb rfl (fun _ => ?_) (fun _ => ?_))))
    refine JO_l (OL_call [5, 5, 5] rfl rfl rfl heapSize rfl) rfl rfl ?_
    rintro _ _ ⟨_, ⟨rfl, rfl⟩, rfl⟩
    repeat' (first | (refine IsO ?_; first | refine JO_nil ?_ | (refine IsG ?_; refine G1 rfl rfl ?_) | (refine IsMove ?_; first | refine M1 rfl rfl rfl ?_ | refine M2 rfl rfl rfl ?_ | refine M4 rfl rfl rfl ?_) | (refine IsBin ?_; first | refine B1 rfl rfl rfl rfl ?_ | refine B3 rfl rfl rfl rfl ?_ | refine B6 rfl rfl rfl rfl ?_ | refine B9 rfl rfl rfl rfl rfl rfl rfl ?_) | (refine IsConv ?_; refine C1 rfl rfl rfl rfl rfl ?_) | (refine IsLoad ?_; first | refine L1 rfl rfl rfl rfl ?_ | refine L2 rfl rfl rfl rfl rfl ?_) | (refine IsStore ?_; refine S1 rfl rfl rfl rfl rfl rfl rfl (fun _ => ?_)) | (refine IsBox ?_; refine N1 rfl rfl rfl rfl (fun _ => ?_)) | (refine IsAlloc ?_; refine N2 rfl rfl rfl rfl (fun _ => ?_)) | refine V1 rfl rfl rfl ?_) | (refine IsAt ?_; first | (with_reducible first | refine T1 ?_ | refine T2 ?_ | refine T3 ?_ | refine T5 ?_ | refine T6 ?_) | ((with_reducible show At _ (PBlock _ _ (Exit.exit _)) _ _); refine At_block_hit ?_)) | (refine IsJ ?_; first | refine J_seq ?_ | refine J_region ?_ | refine J_skip ?_ | refine J_ret ?_ | refine J_exit ?_ | (refine IsCond ?_; first | refine J_cond_t rfl ?_ | refine J_cond_f rfl ?_ | refine K4 rfl ?_ | refine J_cb rfl (fun _ => ?_) (fun _ => ?_))))
    refine JO_l (OL_call [0, 0, 0] rfl rfl rfl heapSize rfl) rfl rfl ?_
    rintro _ _ ⟨_, ⟨rfl, rfl⟩, rfl⟩
    by_cases hkB2 : k < Bnd
    · repeat' (first | (refine IsO ?_; first | refine JO_nil ?_ | (refine IsG ?_; refine G1 rfl rfl ?_) | (refine IsMove ?_; first | refine M1 rfl rfl rfl ?_ | refine M2 rfl rfl rfl ?_ | refine M4 rfl rfl rfl ?_) | (refine IsBin ?_; first | refine B1 rfl rfl rfl rfl ?_ | refine B3 rfl rfl rfl rfl ?_ | refine B6 rfl rfl rfl rfl ?_ | refine B9 rfl rfl rfl rfl rfl rfl rfl ?_) | (refine IsConv ?_; refine C1 rfl rfl rfl rfl rfl ?_) | (refine IsLoad ?_; first | refine L1 rfl rfl rfl rfl ?_ | refine L2 rfl rfl rfl rfl rfl ?_) | (refine IsStore ?_; refine S1 rfl rfl rfl rfl rfl rfl rfl (fun _ => ?_)) | (refine IsBox ?_; refine N1 rfl rfl rfl rfl (fun _ => ?_)) | (refine IsAlloc ?_; refine N2 rfl rfl rfl rfl (fun _ => ?_)) | refine V1 rfl rfl rfl ?_) | (refine IsAt ?_; first | (with_reducible first | refine T1 ?_ | refine T2 ?_ | refine T3 ?_ | refine T5 ?_ | refine T6 ?_) | ((with_reducible show At _ (PBlock _ _ (Exit.exit _)) _ _); refine At_block_hit ?_)) | (refine IsJ ?_; first | refine J_seq ?_ | refine J_region ?_ | refine J_skip ?_ | refine J_ret ?_ | refine J_exit ?_ | (refine IsCond ?_; first | refine J_cond_t rfl ?_ | refine J_cond_f rfl ?_ | refine K4 rfl ?_ | refine J_cb rfl (fun _ => ?_) (fun _ => ?_))))
      refine JO_l (OL_call [3, 3, 3, 3, 3, 0, 0, 0, 0, 0, 0, 0, 0, 0] rfl rfl rfl (Over_run F hs) rfl) rfl rfl ?_
      rintro _ _ ⟨_, ⟨t, ht, rfl, rfl⟩, rfl⟩
      cases t with
      | true =>
        repeat' ((fail_if_success (with_reducible show J _ (Code.seq (Code.region 19 _ _) _) _ _ _)); first | (refine IsO ?_; first | refine JO_nil ?_ | (refine IsG ?_; refine G1 rfl rfl ?_) | (refine IsMove ?_; first | refine M1 rfl rfl rfl ?_ | refine M2 rfl rfl rfl ?_ | refine M4 rfl rfl rfl ?_) | (refine IsBin ?_; first | refine B1 rfl rfl rfl rfl ?_ | refine B3 rfl rfl rfl rfl ?_ | refine B6 rfl rfl rfl rfl ?_ | refine B9 rfl rfl rfl rfl rfl rfl rfl ?_) | (refine IsConv ?_; refine C1 rfl rfl rfl rfl rfl ?_) | (refine IsLoad ?_; first | refine L1 rfl rfl rfl rfl ?_ | refine L2 rfl rfl rfl rfl rfl ?_) | (refine IsStore ?_; refine S1 rfl rfl rfl rfl rfl rfl rfl (fun _ => ?_)) | (refine IsBox ?_; refine N1 rfl rfl rfl rfl (fun _ => ?_)) | (refine IsAlloc ?_; refine N2 rfl rfl rfl rfl (fun _ => ?_)) | refine V1 rfl rfl rfl ?_) | (refine IsAt ?_; first | (with_reducible first | refine T1 ?_ | refine T2 ?_ | refine T3 ?_ | refine T5 ?_ | refine T6 ?_) | ((with_reducible show At _ (PBlock _ _ (Exit.exit _)) _ _); refine At_block_hit ?_)) | (refine IsJ ?_; first | refine J_seq ?_ | refine J_region ?_ | refine J_block ?_ | refine J_skip ?_ | refine J_ret ?_ | refine J_exit ?_ | (refine IsCond ?_; first | refine J_cond_t rfl ?_ | refine J_cond_f rfl ?_ | refine K4 rfl ?_ | refine J_cb rfl (fun _ => ?_) (fun _ => ?_))))
        exact J_regs (by repeat (first | exact True.intro | refine And.intro rfl ?_)) (J_hp (fun H hl => hl) (hT s ⟨hs, ht.1 rfl⟩))
      | false =>
        have hno : ¬ ROv T nR os ms s := fun e => absurd (ht.2 e) (by decide)
        repeat' (first | (refine IsO ?_; first | refine JO_nil ?_ | (refine IsG ?_; refine G1 rfl rfl ?_) | (refine IsMove ?_; first | refine M1 rfl rfl rfl ?_ | refine M2 rfl rfl rfl ?_ | refine M4 rfl rfl rfl ?_) | (refine IsBin ?_; first | refine B1 rfl rfl rfl rfl ?_ | refine B3 rfl rfl rfl rfl ?_ | refine B6 rfl rfl rfl rfl ?_ | refine B9 rfl rfl rfl rfl rfl rfl rfl ?_) | (refine IsConv ?_; refine C1 rfl rfl rfl rfl rfl ?_) | (refine IsLoad ?_; first | refine L1 rfl rfl rfl rfl ?_ | refine L2 rfl rfl rfl rfl rfl ?_) | (refine IsStore ?_; refine S1 rfl rfl rfl rfl rfl rfl rfl (fun _ => ?_)) | (refine IsBox ?_; refine N1 rfl rfl rfl rfl (fun _ => ?_)) | (refine IsAlloc ?_; refine N2 rfl rfl rfl rfl (fun _ => ?_)) | refine V1 rfl rfl rfl ?_) | (refine IsAt ?_; first | (with_reducible first | refine T1 ?_ | refine T2 ?_ | refine T3 ?_ | refine T5 ?_ | refine T6 ?_) | ((with_reducible show At _ (PBlock _ _ (Exit.exit _)) _ _); refine At_block_hit ?_)) | (refine IsJ ?_; first | refine J_seq ?_ | refine J_region ?_ | refine J_block ?_ | refine J_skip ?_ | refine J_ret ?_ | refine J_exit ?_ | (refine IsCond ?_; first | refine J_cond_t rfl ?_ | refine J_cond_f rfl ?_ | refine K4 rfl ?_ | refine J_cb rfl (fun _ => ?_) (fun _ => ?_))))
        refine J_loop (α := Nat × RSt) (fun x => x.1 ≤ wk ∧ ROk n T w nR ws os ms wk x.2 ∧ x.2.tv ≤ 64 * k + x.1 ∧ RRnd T w nR ws os ms x.2 (RPhi T w nR ws os ms s) (fun j => j < x.1))
          (fun x => (13, .int .i64 k) :: (90, .int .i64 wk) :: (91, .int .i64 x.1) :: [(5, ptr p 0), (10, .int .i64 wk), (11, ptr ps 0)]) (fun x => sldR ps pf p bw bs pm bm bst bf n T w nR pw bw2 pz bz ws st ms rs fs wa wc (szL (lvs ms os)) x.2 ++ [Low W0]) (fun x => wk - x.1) (0, s) ⟨Nat.zero_le _, hs, by dsimp only; omega, .inr (.inr ⟨Nat.le_refl _, fun j x hj => absurd hj (Nat.not_lt_zero _)⟩)⟩ (by repeat (first | exact True.intro | refine And.intro rfl ?_)) (fun H hl => hl) ?_
        rintro ⟨q, s1⟩ ⟨hq, hs1, htv1, hrnd⟩
        dsimp only at hq hs1 htv1 hrnd ⊢
        repeat' (first | (refine IsO ?_; first | refine JO_nil ?_ | (refine IsG ?_; refine G1 rfl rfl ?_) | (refine IsMove ?_; first | refine M1 rfl rfl rfl ?_ | refine M2 rfl rfl rfl ?_ | refine M4 rfl rfl rfl ?_) | (refine IsBin ?_; first | refine B1 rfl rfl rfl rfl ?_ | refine B3 rfl rfl rfl rfl ?_ | refine B6 rfl rfl rfl rfl ?_ | refine B9 rfl rfl rfl rfl rfl rfl rfl ?_) | (refine IsConv ?_; refine C1 rfl rfl rfl rfl rfl ?_) | (refine IsLoad ?_; first | refine L1 rfl rfl rfl rfl ?_ | refine L2 rfl rfl rfl rfl rfl ?_) | (refine IsStore ?_; refine S1 rfl rfl rfl rfl rfl rfl rfl (fun _ => ?_)) | (refine IsBox ?_; refine N1 rfl rfl rfl rfl (fun _ => ?_)) | (refine IsAlloc ?_; refine N2 rfl rfl rfl rfl (fun _ => ?_)) | refine V1 rfl rfl rfl ?_) | (refine IsAt ?_; first | (with_reducible first | refine T1 ?_ | refine T2 ?_ | refine T3 ?_ | refine T5 ?_ | refine T6 ?_) | ((with_reducible show At _ (PBlock _ _ (Exit.exit _)) _ _); refine At_block_hit ?_)) | (refine IsJ ?_; first | refine J_seq ?_ | refine J_region ?_ | refine J_skip ?_ | refine J_ret ?_ | refine J_exit ?_ | (refine IsCond ?_; first | refine J_cond_t rfl ?_ | refine J_cond_f rfl ?_ | refine K4 rfl ?_ | refine J_cb rfl (fun _ => ?_) (fun _ => ?_))))
        · refine J_block ?_
          repeat' (first | (refine IsO ?_; first | refine JO_nil ?_ | (refine IsG ?_; refine G1 rfl rfl ?_) | (refine IsMove ?_; first | refine M1 rfl rfl rfl ?_ | refine M2 rfl rfl rfl ?_ | refine M4 rfl rfl rfl ?_) | (refine IsBin ?_; first | refine B1 rfl rfl rfl rfl ?_ | refine B3 rfl rfl rfl rfl ?_ | refine B6 rfl rfl rfl rfl ?_ | refine B9 rfl rfl rfl rfl rfl rfl rfl ?_) | (refine IsConv ?_; refine C1 rfl rfl rfl rfl rfl ?_) | (refine IsLoad ?_; first | refine L1 rfl rfl rfl rfl ?_ | refine L2 rfl rfl rfl rfl rfl ?_) | (refine IsStore ?_; refine S1 rfl rfl rfl rfl rfl rfl rfl (fun _ => ?_)) | (refine IsBox ?_; refine N1 rfl rfl rfl rfl (fun _ => ?_)) | (refine IsAlloc ?_; refine N2 rfl rfl rfl rfl (fun _ => ?_)) | refine V1 rfl rfl rfl ?_) | (refine IsAt ?_; first | (with_reducible first | refine T1 ?_ | refine T2 ?_ | refine T3 ?_ | refine T5 ?_ | refine T6 ?_) | ((with_reducible show At _ (PBlock _ _ (Exit.exit _)) _ _); refine At_block_hit ?_)) | (refine IsJ ?_; first | refine J_seq ?_ | refine J_region ?_ | refine J_block ?_ | refine J_skip ?_ | refine J_ret ?_ | refine J_exit ?_ | (refine IsCond ?_; first | refine J_cond_t rfl ?_ | refine J_cond_f rfl ?_ | refine K4 rfl ?_ | refine J_cb rfl (fun _ => ?_) (fun _ => ?_))))
          refine JO_l (OL_call [0, 0, 0, 0, 0, 0, 0, 0, 0, 0, 0, 0, 0, 0] rfl rfl rfl (Step_run F hs1 (by omega) (show q < wk by omega) (by have := hs1.t0; constructor <;> omega)) rfl) rfl rfl ?_
          rintro _ _ ⟨_, ⟨s2, e, hs2, hnx, he, rfl, rfl⟩, rfl⟩
          have htv2 : s2.tv ≤ s1.tv + 1 := by
            rcases hnx with ⟨_, rfl⟩ | ⟨_, h2 | h2, _⟩ <;> omega
          repeat' (first | (refine IsO ?_; first | refine JO_nil ?_ | (refine IsG ?_; refine G1 rfl rfl ?_) | (refine IsMove ?_; first | refine M1 rfl rfl rfl ?_ | refine M2 rfl rfl rfl ?_ | refine M4 rfl rfl rfl ?_) | (refine IsBin ?_; first | refine B1 rfl rfl rfl rfl ?_ | refine B3 rfl rfl rfl rfl ?_ | refine B6 rfl rfl rfl rfl ?_ | refine B9 rfl rfl rfl rfl rfl rfl rfl ?_) | (refine IsConv ?_; refine C1 rfl rfl rfl rfl rfl ?_) | (refine IsLoad ?_; first | refine L1 rfl rfl rfl rfl ?_ | refine L2 rfl rfl rfl rfl rfl ?_) | (refine IsStore ?_; refine S1 rfl rfl rfl rfl rfl rfl rfl (fun _ => ?_)) | (refine IsBox ?_; refine N1 rfl rfl rfl rfl (fun _ => ?_)) | (refine IsAlloc ?_; refine N2 rfl rfl rfl rfl (fun _ => ?_)) | refine V1 rfl rfl rfl ?_) | (refine IsAt ?_; first | (with_reducible first | refine T1 ?_ | refine T2 ?_ | refine T3 ?_ | refine T5 ?_ | refine T6 ?_) | ((with_reducible show At _ (PBlock _ _ (Exit.exit _)) _ _); refine At_block_hit ?_)) | (refine IsJ ?_; first | refine J_seq ?_ | refine J_region ?_ | refine J_block ?_ | refine J_skip ?_ | refine J_ret ?_ | refine J_exit ?_ | (refine IsCond ?_; first | refine J_cond_t rfl ?_ | refine J_cond_f rfl ?_ | refine K4 rfl ?_ | refine J_cb rfl (fun _ => ?_) (fun _ => ?_))))
          exact At_round (q + 1, s2) (by show wk - (q + 1) < wk - q; omega) ⟨by show q + 1 ≤ wk; omega, hs2, by dsimp only; omega, hrnd.step hnx fun j hj => by
            have hj : j < q + 1 := hj
            omega⟩ (by repeat (first | exact True.intro | refine And.intro rfl ?_)) (fun H hl => hl)
        · have hqe : q = wk := by omega
          have hd := hrnd.done hs1 (by omega) fun j hj => by omega
          exact At_round (k + 1, s1) (by show Bnd - (k + 1) < Bnd - k; omega) ⟨by show k + 1 ≤ Bnd; omega, hs1, by dsimp only; omega, hd.imp id fun h2 => by
            have := hov.resolve_left hno
            show k + 1 + RPhi T w nR ws os ms s1 < Bnd
            omega⟩ (by repeat (first | exact True.intro | refine And.intro rfl ?_)) (fun H hl => hl)
    · repeat' ((fail_if_success (with_reducible show J _ (Code.seq (Code.region 19 _ _) _) _ _ _)); first | (refine IsO ?_; first | refine JO_nil ?_ | (refine IsG ?_; refine G1 rfl rfl ?_) | (refine IsMove ?_; first | refine M1 rfl rfl rfl ?_ | refine M2 rfl rfl rfl ?_ | refine M4 rfl rfl rfl ?_) | (refine IsBin ?_; first | refine B1 rfl rfl rfl rfl ?_ | refine B3 rfl rfl rfl rfl ?_ | refine B6 rfl rfl rfl rfl ?_ | refine B9 rfl rfl rfl rfl rfl rfl rfl ?_) | (refine IsConv ?_; refine C1 rfl rfl rfl rfl rfl ?_) | (refine IsLoad ?_; first | refine L1 rfl rfl rfl rfl ?_ | refine L2 rfl rfl rfl rfl rfl ?_) | (refine IsStore ?_; refine S1 rfl rfl rfl rfl rfl rfl rfl (fun _ => ?_)) | (refine IsBox ?_; refine N1 rfl rfl rfl rfl (fun _ => ?_)) | (refine IsAlloc ?_; refine N2 rfl rfl rfl rfl (fun _ => ?_)) | refine V1 rfl rfl rfl ?_) | (refine IsAt ?_; first | (with_reducible first | refine T1 ?_ | refine T2 ?_ | refine T3 ?_ | refine T5 ?_ | refine T6 ?_) | ((with_reducible show At _ (PBlock _ _ (Exit.exit _)) _ _); refine At_block_hit ?_)) | (refine IsJ ?_; first | refine J_seq ?_ | refine J_region ?_ | refine J_block ?_ | refine J_skip ?_ | refine J_ret ?_ | refine J_exit ?_ | (refine IsCond ?_; first | refine J_cond_t rfl ?_ | refine J_cond_f rfl ?_ | refine K4 rfl ?_ | refine J_cb rfl (fun _ => ?_) (fun _ => ?_))))
      exact J_regs (by repeat (first | exact True.intro | refine And.intro rfl ?_)) (J_hp (fun H hl => hl.pick (is := [3, 3, 3, 3, 3, 0, 0, 0, 0, 0, 0, 0, 0, 0, 0]) rfl) (hT s ⟨hs, hov.resolve_right (by omega)⟩))
  rintro s ⟨hs, hov⟩
  repeat' (first | (refine IsO ?_; first | refine JO_nil ?_ | (refine IsG ?_; refine G1 rfl rfl ?_) | (refine IsMove ?_; first | refine M1 rfl rfl rfl ?_ | refine M2 rfl rfl rfl ?_ | refine M4 rfl rfl rfl ?_) | (refine IsBin ?_; first | refine B1 rfl rfl rfl rfl ?_ | refine B3 rfl rfl rfl rfl ?_ | refine B6 rfl rfl rfl rfl ?_ | refine B9 rfl rfl rfl rfl rfl rfl rfl ?_) | (refine IsConv ?_; refine C1 rfl rfl rfl rfl rfl ?_) | (refine IsLoad ?_; first | refine L1 rfl rfl rfl rfl ?_ | refine L2 rfl rfl rfl rfl rfl ?_) | (refine IsStore ?_; refine S1 rfl rfl rfl rfl rfl rfl rfl (fun _ => ?_)) | (refine IsBox ?_; refine N1 rfl rfl rfl rfl (fun _ => ?_)) | (refine IsAlloc ?_; refine N2 rfl rfl rfl rfl (fun _ => ?_)) | refine V1 rfl rfl rfl ?_) | (refine IsAt ?_; first | (with_reducible first | refine T1 ?_ | refine T2 ?_ | refine T3 ?_ | refine T5 ?_ | refine T6 ?_) | ((with_reducible show At _ (PBlock _ _ (Exit.exit _)) _ _); refine At_block_hit ?_)) | (refine IsJ ?_; first | refine J_seq ?_ | refine J_region ?_ | refine J_block ?_ | refine J_skip ?_ | refine J_ret ?_ | refine J_exit ?_ | (refine IsCond ?_; first | refine J_cond_t rfl ?_ | refine J_cond_f rfl ?_ | refine K4 rfl ?_ | refine J_cb rfl (fun _ => ?_) (fun _ => ?_))))
  refine JO_l (OL_call [0, 0, 0, 0, 0, 0, 0, 0, 0, 0, 0, 0, 0, 0] rfl rfl rfl (Heap_run F (by omega) hs hov) rfl) rfl rfl ?_
  rintro _ _ ⟨_, ⟨p', bw', bs', st', hHT, rfl, rfl⟩, rfl⟩
  rw [hNW, hsT] at hHT
  rw [hNW, hsT]
  repeat' (first | (refine IsO ?_; first | refine JO_nil ?_ | (refine IsG ?_; refine G1 rfl rfl ?_) | (refine IsMove ?_; first | refine M1 rfl rfl rfl ?_ | refine M2 rfl rfl rfl ?_ | refine M4 rfl rfl rfl ?_) | (refine IsBin ?_; first | refine B1 rfl rfl rfl rfl ?_ | refine B3 rfl rfl rfl rfl ?_ | refine B6 rfl rfl rfl rfl ?_ | refine B9 rfl rfl rfl rfl rfl rfl rfl ?_) | (refine IsConv ?_; refine C1 rfl rfl rfl rfl rfl ?_) | (refine IsLoad ?_; first | refine L1 rfl rfl rfl rfl ?_ | refine L2 rfl rfl rfl rfl rfl ?_) | (refine IsStore ?_; refine S1 rfl rfl rfl rfl rfl rfl rfl (fun _ => ?_)) | (refine IsBox ?_; refine N1 rfl rfl rfl rfl (fun _ => ?_)) | (refine IsAlloc ?_; refine N2 rfl rfl rfl rfl (fun _ => ?_)) | refine V1 rfl rfl rfl ?_) | (refine IsAt ?_; first | (with_reducible first | refine T1 ?_ | refine T2 ?_ | refine T3 ?_ | refine T5 ?_ | refine T6 ?_) | ((with_reducible show At _ (PBlock _ _ (Exit.exit _)) _ _); refine At_block_hit ?_)) | (refine IsJ ?_; first | refine J_seq ?_ | refine J_region ?_ | refine J_block ?_ | refine J_skip ?_ | refine J_ret ?_ | refine J_exit ?_ | (refine IsCond ?_; first | refine J_cond_t rfl ?_ | refine J_cond_f rfl ?_ | refine K4 rfl ?_ | refine J_cb rfl (fun _ => ?_) (fun _ => ?_))))
  refine JO_l (OL_call [0, 0, 0] rfl rfl rfl heapTop rfl) rfl rfl ?_
  rintro _ _ ⟨_, ⟨rfl, rfl⟩, rfl⟩
  repeat' (first | (refine IsO ?_; first | refine JO_nil ?_ | (refine IsG ?_; refine G1 rfl rfl ?_) | (refine IsMove ?_; first | refine M1 rfl rfl rfl ?_ | refine M2 rfl rfl rfl ?_ | refine M4 rfl rfl rfl ?_) | (refine IsBin ?_; first | refine B1 rfl rfl rfl rfl ?_ | refine B3 rfl rfl rfl rfl ?_ | refine B6 rfl rfl rfl rfl ?_ | refine B9 rfl rfl rfl rfl rfl rfl rfl ?_) | (refine IsConv ?_; refine C1 rfl rfl rfl rfl rfl ?_) | (refine IsLoad ?_; first | refine L1 rfl rfl rfl rfl ?_ | refine L2 rfl rfl rfl rfl rfl ?_) | (refine IsStore ?_; refine S1 rfl rfl rfl rfl rfl rfl rfl (fun _ => ?_)) | (refine IsBox ?_; refine N1 rfl rfl rfl rfl (fun _ => ?_)) | (refine IsAlloc ?_; refine N2 rfl rfl rfl rfl (fun _ => ?_)) | refine V1 rfl rfl rfl ?_) | (refine IsAt ?_; first | (with_reducible first | refine T1 ?_ | refine T2 ?_ | refine T3 ?_ | refine T5 ?_ | refine T6 ?_) | ((with_reducible show At _ (PBlock _ _ (Exit.exit _)) _ _); refine At_block_hit ?_)) | (refine IsJ ?_; first | refine J_seq ?_ | refine J_region ?_ | refine J_block ?_ | refine J_skip ?_ | refine J_ret ?_ | refine J_exit ?_ | (refine IsCond ?_; first | refine J_cond_t rfl ?_ | refine J_cond_f rfl ?_ | refine K4 rfl ?_ | refine J_cb rfl (fun _ => ?_) (fun _ => ?_))))
  refine JO_l (OL_call [8, 8, 8] rfl rfl rfl heapTop rfl) rfl rfl ?_
  rintro _ _ ⟨_, ⟨rfl, rfl⟩, rfl⟩
  repeat' (first | (refine IsO ?_; first | refine JO_nil ?_ | (refine IsG ?_; refine G1 rfl rfl ?_) | (refine IsMove ?_; first | refine M1 rfl rfl rfl ?_ | refine M2 rfl rfl rfl ?_ | refine M4 rfl rfl rfl ?_) | (refine IsBin ?_; first | refine B1 rfl rfl rfl rfl ?_ | refine B3 rfl rfl rfl rfl ?_ | refine B6 rfl rfl rfl rfl ?_ | refine B9 rfl rfl rfl rfl rfl rfl rfl ?_) | (refine IsConv ?_; refine C1 rfl rfl rfl rfl rfl ?_) | (refine IsLoad ?_; first | refine L1 rfl rfl rfl rfl ?_ | refine L2 rfl rfl rfl rfl rfl ?_) | (refine IsStore ?_; refine S1 rfl rfl rfl rfl rfl rfl rfl (fun _ => ?_)) | (refine IsBox ?_; refine N1 rfl rfl rfl rfl (fun _ => ?_)) | (refine IsAlloc ?_; refine N2 rfl rfl rfl rfl (fun _ => ?_)) | refine V1 rfl rfl rfl ?_) | (refine IsAt ?_; first | (with_reducible first | refine T1 ?_ | refine T2 ?_ | refine T3 ?_ | refine T5 ?_ | refine T6 ?_) | ((with_reducible show At _ (PBlock _ _ (Exit.exit _)) _ _); refine At_block_hit ?_)) | (refine IsJ ?_; first | refine J_seq ?_ | refine J_region ?_ | refine J_block ?_ | refine J_skip ?_ | refine J_ret ?_ | refine J_exit ?_ | (refine IsCond ?_; first | refine J_cond_t rfl ?_ | refine J_cond_f rfl ?_ | refine K4 rfl ?_ | refine J_cb rfl (fun _ => ?_) (fun _ => ?_))))
  have hM2 : Does Try.prog 23 [ptr p 0] (heapL p bw bs n ws T st) _ := heapWords hB.ht.wl hnb
  refine JO_l (OL_call [0, 0, 0] rfl rfl rfl hM2 rfl) rfl rfl ?_
  rintro _ _ ⟨_, ⟨aa, cc, hna, rfl, rfl⟩, rfl⟩
  clear hM2
  repeat' (first | (refine IsO ?_; first | refine JO_nil ?_ | (refine IsG ?_; refine G1 rfl rfl ?_) | (refine IsMove ?_; first | refine M1 rfl rfl rfl ?_ | refine M2 rfl rfl rfl ?_ | refine M4 rfl rfl rfl ?_) | (refine IsBin ?_; first | refine B1 rfl rfl rfl rfl ?_ | refine B3 rfl rfl rfl rfl ?_ | refine B6 rfl rfl rfl rfl ?_ | refine B9 rfl rfl rfl rfl rfl rfl rfl ?_) | (refine IsConv ?_; refine C1 rfl rfl rfl rfl rfl ?_) | (refine IsLoad ?_; first | refine L1 rfl rfl rfl rfl ?_ | refine L2 rfl rfl rfl rfl rfl ?_) | (refine IsStore ?_; refine S1 rfl rfl rfl rfl rfl rfl rfl (fun _ => ?_)) | (refine IsBox ?_; refine N1 rfl rfl rfl rfl (fun _ => ?_)) | (refine IsAlloc ?_; refine N2 rfl rfl rfl rfl (fun _ => ?_)) | refine V1 rfl rfl rfl ?_) | (refine IsAt ?_; first | (with_reducible first | refine T1 ?_ | refine T2 ?_ | refine T3 ?_ | refine T5 ?_ | refine T6 ?_) | ((with_reducible show At _ (PBlock _ _ (Exit.exit _)) _ _); refine At_block_hit ?_)) | (refine IsJ ?_; first | refine J_seq ?_ | refine J_region ?_ | refine J_block ?_ | refine J_skip ?_ | refine J_ret ?_ | refine J_exit ?_ | (refine IsCond ?_; first | refine J_cond_t rfl ?_ | refine J_cond_f rfl ?_ | refine K4 rfl ?_ | refine J_cb rfl (fun _ => ?_) (fun _ => ?_))))
  have hwl := hB.ht.wl
  have hRd : Reads (row 3 1 aa n cc (intsV ws)) 1 n aa cc (intsV ws) := Reads.row (by simp; omega) hna
  refine J_loop (α := Nat) (fun k => k ≤ n) (fun k => [(15, ptr p' 0), (113, .slice aa n cc), (114, .int .i64 n), (115, .int .i64 k)])
    (fun k => row 3 1 aa n cc (intsV ws) :: (heapL p' bw' bs' n ws T st' ++ [Low W0]))
    (fun k => n - k) 0 (Nat.zero_le _) (by repeat (first | exact True.intro | refine And.intro rfl ?_)) (fun H hl => hl.pick (is := [0, 3, 3, 3, 14]) rfl) ?_
  intro k hk
  repeat' (first | (refine IsO ?_; first | refine JO_nil ?_ | (refine IsG ?_; refine G1 rfl rfl ?_) | (refine IsMove ?_; first | refine M1 rfl rfl rfl ?_ | refine M2 rfl rfl rfl ?_ | refine M4 rfl rfl rfl ?_) | (refine IsBin ?_; first | refine B1 rfl rfl rfl rfl ?_ | refine B3 rfl rfl rfl rfl ?_ | refine B6 rfl rfl rfl rfl ?_ | refine B9 rfl rfl rfl rfl rfl rfl rfl ?_) | (refine IsConv ?_; refine C1 rfl rfl rfl rfl rfl ?_) | (refine IsLoad ?_; first | refine L1 rfl rfl rfl rfl ?_ | refine L2 rfl rfl rfl rfl rfl ?_) | (refine IsStore ?_; refine S1 rfl rfl rfl rfl rfl rfl rfl (fun _ => ?_)) | (refine IsBox ?_; refine N1 rfl rfl rfl rfl (fun _ => ?_)) | (refine IsAlloc ?_; refine N2 rfl rfl rfl rfl (fun _ => ?_)) | refine V1 rfl rfl rfl ?_) | (refine IsAt ?_; first | (with_reducible first | refine T1 ?_ | refine T2 ?_ | refine T3 ?_ | refine T5 ?_ | refine T6 ?_) | ((with_reducible show At _ (PBlock _ _ (Exit.exit _)) _ _); refine At_block_hit ?_)) | (refine IsJ ?_; first | refine J_seq ?_ | refine J_region ?_ | refine J_skip ?_ | refine J_ret ?_ | refine J_exit ?_ | (refine IsCond ?_; first | refine J_cond_t rfl ?_ | refine J_cond_f rfl ?_ | refine K4 rfl ?_ | refine J_cb rfl (fun _ => ?_) (fun _ => ?_))))
  · rename_i hlt2
    refine J_block ?_
    obtain ⟨y, hy⟩ : ∃ y, ws[k]? = some y := ⟨ws[k]'(by omega), List.getElem?_eq_getElem _⟩
    refine J_fact _ (fun w hs => hRd.some (by omega) hs (by simp)) ?_
    rintro ⟨r0, q0, rfl⟩
    repeat' (first | (refine IsO ?_; first | refine JO_nil ?_ | (refine IsG ?_; refine G1 rfl rfl ?_) | (refine IsMove ?_; first | refine M1 rfl rfl rfl ?_ | refine M2 rfl rfl rfl ?_ | refine M4 rfl rfl rfl ?_) | (refine IsBin ?_; first | refine B1 rfl rfl rfl rfl ?_ | refine B3 rfl rfl rfl rfl ?_ | refine B6 rfl rfl rfl rfl ?_ | refine B9 rfl rfl rfl rfl rfl rfl rfl ?_) | (refine IsConv ?_; refine C1 rfl rfl rfl rfl rfl ?_) | (refine IsLoad ?_; first | refine L1 rfl rfl rfl rfl ?_ | refine L2 rfl rfl rfl rfl rfl ?_) | (refine IsStore ?_; refine S1 rfl rfl rfl rfl rfl rfl rfl (fun _ => ?_)) | (refine IsBox ?_; refine N1 rfl rfl rfl rfl (fun _ => ?_)) | (refine IsAlloc ?_; refine N2 rfl rfl rfl rfl (fun _ => ?_)) | refine V1 rfl rfl rfl ?_) | (refine IsAt ?_; first | (with_reducible first | refine T1 ?_ | refine T2 ?_ | refine T3 ?_ | refine T5 ?_ | refine T6 ?_) | ((with_reducible show At _ (PBlock _ _ (Exit.exit _)) _ _); refine At_block_hit ?_)) | (refine IsJ ?_; first | refine J_seq ?_ | refine J_region ?_ | refine J_block ?_ | refine J_skip ?_ | refine J_ret ?_ | refine J_exit ?_ | (refine IsCond ?_; first | refine J_cond_t rfl ?_ | refine J_cond_f rfl ?_ | refine K4 rfl ?_ | refine J_cb rfl (fun _ => ?_) (fun _ => ?_))))
    refine JO_val (OV_idx (off := q0 + k) rfl rfl rfl rfl (by omega) (by omega) (by simp)) rfl rfl ?_
    refine JO_q (OQ_read (i := k) (v := .int .i64 y) hRd (by repeat (first | exact .head _ | refine .tail _ ?_)) rfl rfl (by omega) (by simp [hy])) rfl rfl ?_
    repeat' (first | (refine IsO ?_; first | refine JO_nil ?_ | (refine IsG ?_; refine G1 rfl rfl ?_) | (refine IsMove ?_; first | refine M1 rfl rfl rfl ?_ | refine M2 rfl rfl rfl ?_ | refine M4 rfl rfl rfl ?_) | (refine IsBin ?_; first | refine B1 rfl rfl rfl rfl ?_ | refine B3 rfl rfl rfl rfl ?_ | refine B6 rfl rfl rfl rfl ?_ | refine B9 rfl rfl rfl rfl rfl rfl rfl ?_) | (refine IsConv ?_; refine C1 rfl rfl rfl rfl rfl ?_) | (refine IsLoad ?_; first | refine L1 rfl rfl rfl rfl ?_ | refine L2 rfl rfl rfl rfl rfl ?_) | (refine IsStore ?_; refine S1 rfl rfl rfl rfl rfl rfl rfl (fun _ => ?_)) | (refine IsBox ?_; refine N1 rfl rfl rfl rfl (fun _ => ?_)) | (refine IsAlloc ?_; refine N2 rfl rfl rfl rfl (fun _ => ?_)) | refine V1 rfl rfl rfl ?_) | (refine IsAt ?_; first | (with_reducible first | refine T1 ?_ | refine T2 ?_ | refine T3 ?_ | refine T5 ?_ | refine T6 ?_) | ((with_reducible show At _ (PBlock _ _ (Exit.exit _)) _ _); refine At_block_hit ?_)) | (refine IsJ ?_; first | refine J_seq ?_ | refine J_region ?_ | refine J_block ?_ | refine J_skip ?_ | refine J_ret ?_ | refine J_exit ?_ | (refine IsCond ?_; first | refine J_cond_t rfl ?_ | refine J_cond_f rfl ?_ | refine K4 rfl ?_ | refine J_cb rfl (fun _ => ?_) (fun _ => ?_))))
    have hM2 : Does Try.prog 23 [ptr p' 0] (heapL p' bw' bs' n ws T st') _ := heapWords hwl hnb
    refine JO_l (OL_call [1, 1, 1] rfl rfl rfl hM2 rfl) rfl rfl ?_
    rintro _ _ ⟨_, ⟨a2, c2, hn2, rfl, rfl⟩, rfl⟩
    clear hM2
    have hR2 : Reads (row 3 1 a2 n c2 (intsV ws)) 1 n a2 c2 (intsV ws) := Reads.row (by simp; omega) hn2
    refine JO_fact _ (fun w hs => hR2.some (by omega) hs (by simp)) ?_
    rintro ⟨r1, q1, rfl⟩
    repeat' (first | (refine IsO ?_; first | refine JO_nil ?_ | (refine IsG ?_; refine G1 rfl rfl ?_) | (refine IsMove ?_; first | refine M1 rfl rfl rfl ?_ | refine M2 rfl rfl rfl ?_ | refine M4 rfl rfl rfl ?_) | (refine IsBin ?_; first | refine B1 rfl rfl rfl rfl ?_ | refine B3 rfl rfl rfl rfl ?_ | refine B6 rfl rfl rfl rfl ?_ | refine B9 rfl rfl rfl rfl rfl rfl rfl ?_) | (refine IsConv ?_; refine C1 rfl rfl rfl rfl rfl ?_) | (refine IsLoad ?_; first | refine L1 rfl rfl rfl rfl ?_ | refine L2 rfl rfl rfl rfl rfl ?_) | (refine IsStore ?_; refine S1 rfl rfl rfl rfl rfl rfl rfl (fun _ => ?_)) | (refine IsBox ?_; refine N1 rfl rfl rfl rfl (fun _ => ?_)) | (refine IsAlloc ?_; refine N2 rfl rfl rfl rfl (fun _ => ?_)) | refine V1 rfl rfl rfl ?_) | (refine IsAt ?_; first | (with_reducible first | refine T1 ?_ | refine T2 ?_ | refine T3 ?_ | refine T5 ?_ | refine T6 ?_) | ((with_reducible show At _ (PBlock _ _ (Exit.exit _)) _ _); refine At_block_hit ?_)) | (refine IsJ ?_; first | refine J_seq ?_ | refine J_region ?_ | refine J_block ?_ | refine J_skip ?_ | refine J_ret ?_ | refine J_exit ?_ | (refine IsCond ?_; first | refine J_cond_t rfl ?_ | refine J_cond_f rfl ?_ | refine K4 rfl ?_ | refine J_cb rfl (fun _ => ?_) (fun _ => ?_))))
    refine JO_val (OV_idx (off := q1 + k) rfl rfl rfl rfl (by omega) (by omega) (by simp)) rfl rfl ?_
    refine JO_q (OQ_read (i := k) (v := .int .i64 y) hR2 (by repeat (first | exact .head _ | refine .tail _ ?_)) rfl rfl (by omega) (by simp [hy])) rfl rfl ?_
    repeat' (first | (refine IsO ?_; first | refine JO_nil ?_ | (refine IsG ?_; refine G1 rfl rfl ?_) | (refine IsMove ?_; first | refine M1 rfl rfl rfl ?_ | refine M2 rfl rfl rfl ?_ | refine M4 rfl rfl rfl ?_) | (refine IsBin ?_; first | refine B1 rfl rfl rfl rfl ?_ | refine B3 rfl rfl rfl rfl ?_ | refine B6 rfl rfl rfl rfl ?_ | refine B9 rfl rfl rfl rfl rfl rfl rfl ?_) | (refine IsConv ?_; refine C1 rfl rfl rfl rfl rfl ?_) | (refine IsLoad ?_; first | refine L1 rfl rfl rfl rfl ?_ | refine L2 rfl rfl rfl rfl rfl ?_) | (refine IsStore ?_; refine S1 rfl rfl rfl rfl rfl rfl rfl (fun _ => ?_)) | (refine IsBox ?_; refine N1 rfl rfl rfl rfl (fun _ => ?_)) | (refine IsAlloc ?_; refine N2 rfl rfl rfl rfl (fun _ => ?_)) | refine V1 rfl rfl rfl ?_) | (refine IsAt ?_; first | (with_reducible first | refine T1 ?_ | refine T2 ?_ | refine T3 ?_ | refine T5 ?_ | refine T6 ?_) | ((with_reducible show At _ (PBlock _ _ (Exit.exit _)) _ _); refine At_block_hit ?_)) | (refine IsJ ?_; first | refine J_seq ?_ | refine J_region ?_ | refine J_block ?_ | refine J_skip ?_ | refine J_ret ?_ | refine J_exit ?_ | (refine IsCond ?_; first | refine J_cond_t rfl ?_ | refine J_cond_f rfl ?_ | refine K4 rfl ?_ | refine J_cb rfl (fun _ => ?_) (fun _ => ?_))))
    exact At_round (k + 1) (by show n - (k + 1) < n - k; omega) (by show k + 1 ≤ n; omega) (by repeat (first | exact True.intro | refine And.intro rfl ?_)) (fun H hl => hl.pick (is := [4, 1, 1, 1, 1]) rfl)
  · repeat' (first | (refine IsO ?_; first | refine JO_nil ?_ | (refine IsG ?_; refine G1 rfl rfl ?_) | (refine IsMove ?_; first | refine M1 rfl rfl rfl ?_ | refine M2 rfl rfl rfl ?_ | refine M4 rfl rfl rfl ?_) | (refine IsBin ?_; first | refine B1 rfl rfl rfl rfl ?_ | refine B3 rfl rfl rfl rfl ?_ | refine B6 rfl rfl rfl rfl ?_ | refine B9 rfl rfl rfl rfl rfl rfl rfl ?_) | (refine IsConv ?_; refine C1 rfl rfl rfl rfl rfl ?_) | (refine IsLoad ?_; first | refine L1 rfl rfl rfl rfl ?_ | refine L2 rfl rfl rfl rfl rfl ?_) | (refine IsStore ?_; refine S1 rfl rfl rfl rfl rfl rfl rfl (fun _ => ?_)) | (refine IsBox ?_; refine N1 rfl rfl rfl rfl (fun _ => ?_)) | (refine IsAlloc ?_; refine N2 rfl rfl rfl rfl (fun _ => ?_)) | refine V1 rfl rfl rfl ?_) | (refine IsAt ?_; first | (with_reducible first | refine T1 ?_ | refine T2 ?_ | refine T3 ?_ | refine T5 ?_ | refine T6 ?_) | ((with_reducible show At _ (PBlock _ _ (Exit.exit _)) _ _); refine At_block_hit ?_)) | (refine IsJ ?_; first | refine J_seq ?_ | refine J_region ?_ | refine J_block ?_ | refine J_skip ?_ | refine J_ret ?_ | refine J_exit ?_ | (refine IsCond ?_; first | refine J_cond_t rfl ?_ | refine J_cond_f rfl ?_ | refine K4 rfl ?_ | refine J_cb rfl (fun _ => ?_) (fun _ => ?_))))
    exact At_ret rfl rfl (.tmp rfl .nil) rfl (is := [4]) rfl ⟨rfl, rfl⟩
end Go.Proofs.Ytahfnbpbdnmggaa
