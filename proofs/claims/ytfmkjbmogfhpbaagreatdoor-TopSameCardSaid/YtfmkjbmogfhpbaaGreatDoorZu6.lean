/-
  Our own: what the claims of Zu share, 6 of 6: Sig Sih Pha Phb Phc Phd Swh Ta Tb Tc Al Am Jt Te Tf Td RwTs.
-/
import Derived.Test.YtfmkjbmogfhpbaaGreatDoorZu5
import Derived.RangeFuncStops
import Derived.RangeFuncLeaves
import Derived.LoopNIn
import Derived.Laws.StructEq
import Derived.Tactics
import Derived.Laws.Slices
import Derived.Deep.Quiet
import Derived.IntWalk
import Derived.Shelf.Abstract
import Derived.Laws.Entries
import Derived.Laws.Rows
import Derived.Below
import Derived.TacticsIn
import Derived.OrdersIn
import Derived.KernelRfl
import Derived.Test.YtfmkjbmogfhpbaaGreatDoorProg
import Derived.ChangeArms
import Derived.WalkKit
import Derived.ProofKit
import Derived.OpenShut
import Derived.ChangeOld
import Derived.SizedLaws
import Derived.Carry
import Derived.Lib.SmallJoins
import Derived.Laws.Shifts
import Derived.Laws.Bits64b
import Derived.Shelf.Bits.Mul64
import Derived.Maps.Range
import Derived.Maps.Views
import Derived.Test.YtfmkjbmogfhpbaaGreatDoorRows
import Derived.LaidLaws
import Derived.Handed
import Derived.Lay
import Derived.MakeChecks
set_option linter.unusedVariables false
set_option linter.unusedSimpArgs false
namespace Go.Proofs.YtfmkjbmogfhpbaaGreatDoor
open Go.Sep
structure RSt where
  xs : List WX
  sts : List Int
  wds : List Int
  mv : Int
  tv : Int
  C : Nat
  D : Nat
abbrev RPhi (T w nR : Nat) (ws : List Int) (os : List RO) (ms : List Nat) (s : RSt) : Nat := PhiI T w nR ws os ms s.xs s.C s.D
abbrev ROv (T nR : Nat) (os : List RO) (ms : List Nat) (s : RSt) : Prop := OverP s.sts nR (partsI T (szL (lvs ms os)) : Nat)
structure ROk (n T w nR : Nat) (ws : List Int) (os : List RO) (ms : List Nat) (W : Nat) (s : RSt) : Prop where
  si : ∃ Q A Z, SI n T w nR ws os ms s.xs s.sts s.wds s.mv s.C s.D Q A Z
  xl : s.xs.length = W
  t0 : 0 ≤ s.tv
  cd : s.C + s.D + RPhi T w nR ws os ms s ≤ 1000000000
def RRnd (T w nR : Nat) (ws : List Int) (os : List RO) (ms : List Nat) (s : RSt) (m0 : Nat) (P : Nat → Prop) : Prop :=
  ROv T nR os ms s ∨ RPhi T w nR ws os ms s < m0 ∨ (RPhi T w nR ws os ms s ≤ m0 ∧ ∀ (j : Nat) (x : WX), P j → s.xs[j]? = some x → Stk nR s.sts x)
def RNx (T w nR : Nat) (ws : List Int) (os : List RO) (ms : List Nat) (s s' : RSt) (j : Nat) : Prop :=
  (ROv T nR os ms s ∧ s' = s) ∨ (¬ ROv T nR os ms s ∧ (s'.tv = s.tv ∨ s'.tv = s.tv + 1) ∧ (RPhi T w nR ws os ms s' < RPhi T w nR ws os ms s ∨ (s'.xs = s.xs ∧ s'.sts = s.sts ∧ s'.C = s.C ∧ s'.D = s.D ∧ ∀ x, s.xs[j]? = some x → Stk nR s.sts x)))
theorem RRnd.step {T w nR : Nat} {ws : List Int} {os : List RO} {ms : List Nat} {s s' : RSt} {m0 j : Nat} {P P' : Nat → Prop} (h : RRnd T w nR ws os ms s m0 P) (hn : RNx T w nR ws os ms s s' j) (hP : ∀ i, P' i → P i ∨ i = j) : RRnd T w nR ws os ms s' m0 P' := by
  rcases hn with ⟨ho, rfl⟩ | ⟨hno, _, hlt | ⟨e1, e2, e3, e4, hk⟩⟩
  · exact .inl ho
  · rcases h with ho | h1 | ⟨h1, _⟩
    · exact absurd ho hno
    · exact .inr (.inl (by omega))
    · exact .inr (.inl (by omega))
  · have ep : RPhi T w nR ws os ms s' = RPhi T w nR ws os ms s := by unfold RPhi; rw [e1, e3, e4]
    rcases h with ho | h1 | ⟨h1, h2⟩
    · exact absurd ho hno
    · exact .inr (.inl (by omega))
    · refine .inr (.inr ⟨by omega, fun i x hi hx => ?_⟩)
      rw [e1] at hx
      rw [e2]
      rcases hP i hi with hi | rfl
      · exact h2 i x hi hx
      · exact hk x hx
theorem RRnd.done {n T w nR W : Nat} {ws : List Int} {os : List RO} {ms : List Nat} {s : RSt} {m0 : Nat} {P : Nat → Prop} (h : RRnd T w nR ws os ms s m0 P) (hs : ROk n T w nR ws os ms W s) (h1 : 1 ≤ W) (hP : ∀ j, j < W → P j) : ROv T nR os ms s ∨ RPhi T w nR ws os ms s < m0 := by
  rcases h with ho | h1 | ⟨_, h2⟩
  · exact .inl ho
  · exact .inr h1
  · obtain ⟨Q, A, Z, hS⟩ := hs.si
    exact .inl (hS.stuck (by rw [hs.xl]; exact h1) fun j x hj => h2 j x (hP j (by have := (List.getElem?_eq_some_iff.1 hj).1; rw [hs.xl] at this; exact this)) hj)
section ops
variable {ps pf p bw bs pm bm bst bf n T w nR pw bw2 pz bz wc W : Nat} {wa : Option Addr} {ws : List Int} {st : List Bool} {os : List RO} {ms : List Nat} {rs : List RG} {fs : List Int} {s : RSt}
abbrev sldR (ps pf p bw bs pm bm bst bf n T w nR pw bw2 pz bz : Nat) (ws : List Int) (st : List Bool) (ms : List Nat) (rs : List RG) (fs : List Int) (wa : Option Addr) (wc : Nat) (S : Nat) (s : RSt) : List HP :=
  sldS ps pf p bw bs pm bm bst bf n T w nR pw bw2 pz bz ws st ms rs fs wa wc S s.sts s.wds s.xs s.mv s.tv
theorem Step_run (F : SF n T w nR ws st os ms rs fs) (hs : ROk n T w nR ws os ms W s) (hW : W ≤ 64) {j : Nat} (hj : j < W) (ht : In64 (s.tv + 1)) :
    Does Tryz.prog 37 [ptr ps 0, .int .i64 j] (sldR ps pf p bw bs pm bm bst bf n T w nR pw bw2 pz bz ws st ms rs fs wa wc (szL (lvs ms os)) s)
    (fun v l => ∃ (s' : RSt) (e : Int), ROk n T w nR ws os ms W s' ∧ RNx T w nR ws os ms s s' j ∧ ((ROv T nR os ms s ∧ e = 12) ∨ (¬ ROv T nR os ms s ∧ e = 0)) ∧ v = .int .i64 e ∧
      l = sldR ps pf p bw bs pm bm bst bf n T w nR pw bw2 pz bz ws st ms rs fs wa wc (szL (lvs ms os)) s') := by
  obtain ⟨⟨Q, A, Z, hS⟩, hxl, ht0, hcd⟩ := hs
  have hsl := hS.sl
  have hnR := F.nRT
  have htn := F.h.tn
  have hn6 := F.n6
  obtain ⟨x, hx⟩ : ∃ x, s.xs[j]? = some x := ⟨s.xs[j]'(by omega), List.getElem?_eq_getElem _⟩
  by_cases ho : ROv T nR os ms s
  · refine (SlStep_end ⟨by omega, by omega⟩ hsl (by omega) ho).mono ?_
    rintro v l ⟨rfl, rfl⟩
    exact ⟨s, 12, ⟨⟨Q, A, Z, hS⟩, hxl, ht0, hcd⟩, .inl ⟨ho, rfl⟩, .inl ⟨ho, rfl⟩, rfl, rfl⟩
  · refine (Step_spec F hS hx (by omega) ht hcd ho).mono ?_
    rintro v l ⟨x', sts', wds', mv', tv', C', D', ⟨⟨Q', A', Z', hS'⟩, g1, g2, g3, g4⟩, rfl, rfl⟩
    refine ⟨⟨s.xs.set j x', sts', wds', mv', tv', C', D'⟩, 0, ⟨⟨Q', A', Z', hS'⟩, by rw [List.length_set]; exact hxl, by dsimp only; omega, Nat.le_trans g2 hcd⟩, .inr ⟨ho, g1, ?_⟩, .inr ⟨ho, rfl⟩, rfl, rfl⟩
    rcases g4 with g4 | ⟨k1, rfl, k3, k4, k5⟩
    · exact .inl g4
    · refine .inr ⟨set_sameV hx, k3, k4, k5, fun y hy => ?_⟩
      rw [hx] at hy; injection hy with hy; rw [← hy]; exact k1
theorem Phi_new {xs : List WX} (hxs : ∀ (j : Nat) (y : WX), xs[j]? = some y → y = wk0 j y.c) (hc : Ch ws 0 os T) (hR : nR = numR w T) (h1w : 1 ≤ w) (htn : T ≤ n) (hW : xs.length ≤ 64) : PhiI T w nR ws os ms xs 0 0 < 10 * (n + 10) * (n + 10) := by
  have hnR : nR ≤ n := by rw [hR]; exact Nat.le_trans (numR_le h1w) htn
  have hs := hc.sz
  have h2 : szL (lvs ms os) ≤ szL os := szL_filter
  have h3 := len_le_sz (L := lvs ms os)
  have a1 : ∀ m, m ≤ nR → ((List.range m).map (cRI w nR (lvs ms os))).sum ≤ m * (nR + 4) + (befR w m (lvs ms os)).length + 2 * szL (befR w m (lvs ms os)) := by
    intro m
    induction m with
    | zero => intro _; exact Nat.zero_le _
    | succ m ih =>
      intro hm
      have h1 := ih (by omega)
      rw [List.range_succ, List.map_append, List.sum_append]
      simp only [List.map_cons, List.map_nil, List.sum_cons, List.sum_nil]
      rw [befR_len, befR_next, Nat.succ_mul]
      rw [show cRI w nR (lvs ms os) m = nR + 4 + (inR w m (lvs ms os)).length + 2 * lvI w (lvs ms os) m from rfl]
      have : lvI w (lvs ms os) m = szL (inR w m (lvs ms os)) := rfl
      omega
  have a2 := a1 nR (Nat.le_refl _)
  rw [hR, befR_all ms h1w hc, ← hR] at a2
  have a3 : (xs.map (phiW nR ws)).sum ≤ 64 * (nR + 5) := by
    have : ∀ l : List WX, (∀ y ∈ l, y.fn = fnC) → (l.map (phiW nR ws)).sum = l.length * (nR + 5) := by
      intro l
      induction l with
      | nil => intro _; simp
      | cons y r ih =>
        intro hl
        rw [List.map_cons, List.sum_cons, ih fun z hz => hl z (.tail _ hz), phi_C (hl y (.head _)), List.length_cons, Nat.succ_mul]
        omega
    rw [this xs fun y hy => by
      obtain ⟨i, hi⟩ := List.getElem?_of_mem hy
      rw [hxs i y hi]]
    exact Nat.mul_le_mul_right _ hW
  have a4 : nR * (nR + 4) ≤ n * (n + 4) := Nat.mul_le_mul hnR (by omega)
  have a5 : partsI T (szL (lvs ms os)) ≤ n + 1 := by unfold partsI; omega
  have a6 : 10 * (n + 10) * (n + 10) = 10 * (n * n) + 200 * n + 1000 := by
    rw [Nat.mul_assoc, Nat.add_mul, Nat.mul_add, Nat.mul_add]
    omega
  have a7 : n * (n + 4) = n * n + n * 4 := Nat.mul_add ..
  rw [a7] at a4
  unfold PhiI
  rw [List.drop_zero]
  omega
end ops
open Go.Sep
section ops
variable {ps pf p bw bs pm bm bst bf n T w nR pw bw2 pz bz wc W : Nat} {wa : Option Addr} {ws : List Int} {st : List Bool} {os : List RO} {ms : List Nat} {rs : List RG} {fs : List Int} {s : RSt}
theorem New_run (words : Int) (wk : Nat) (hw : 1 ≤ wk ∧ wk ≤ 64) (h64 : In64 words) (h : HT n T ws st) (hc : Ch ws 0 os T) (hM : MI n ms) (hld : LeadP os) (hyes : RightP ms os) (hn1 : 1 ≤ n) (hn2 : n ≤ 5000) :
    Does Tryz.prog 107 [ptr p 0, ptr pm 0, .int .i64 words, .int .i64 wk] (heapL p bw bs n ws T st ++ marksL pm bm n ms)
    (fun v l => ∃ (ps pf w nR bst bf pw bw2 pz bz : Nat) (rs : List RG) (fs : List Int) (wa : Option Addr) (wc : Nat) (s : RSt), SF n T w nR ws st os ms rs fs ∧ ROk n T w nR ws os ms wk s ∧ RPhi T w nR ws os ms s < 10 * (n + 10) * (n + 10) ∧ s.tv = 0 ∧ s.mv = 0 ∧
      v = .tuple #[ptr ps 0, .int .i64 0] ∧ l = sldR ps pf p bw bs pm bm bst bf n T w nR pw bw2 pz bz ws st ms rs fs wa wc (szL (lvs ms os)) s) := by
  refine (SliderNew_ok words wk hw h64 h hc hM hld hyes hn1).mono ?_
  rintro v l ⟨ps, pf, w, nR, bst, bf, pw, bw2, pz, bz, rs, fs, wa, wc, xs, hw2, hF, hnR, hxl, hxs, rfl, rfl⟩
  have hs := hc.sz
  have h2 : szL (lvs ms os) ≤ szL os := szL_filter
  have hP := Phi_new (ms := ms) hxs hc hnR (by omega) h.tn (by omega)
  have hb : (n + 10) * (n + 10) ≤ 5010 * 5010 := Nat.mul_le_mul (by omega) (by omega)
  have e : ((T : Int) - ((szL (lvs ms os) : Nat) : Int) + 16 - 1) / 16 = ((partsI T (szL (lvs ms os)) : Nat) : Int) := by unfold partsI; omega
  rw [e]
  have hP2 : PhiI T w nR ws os ms xs 0 0 < 10 * ((n + 10) * (n + 10)) := by rw [← Nat.mul_assoc]; exact hP
  exact ⟨ps, pf, w, nR, bst, bf, pw, bw2, pz, bz, rs, fs, wa, wc, ⟨xs, List.replicate (3 + nR) 0, ws, 0, 0, 0, 0⟩, ⟨h, hc, hM, hF, hnR, hyes, by omega⟩, ⟨⟨_, _, _, SI.new h.wl hxs⟩, hxl, Int.le_refl _, by show 0 + 0 + PhiI T w nR ws os ms xs 0 0 ≤ _; omega⟩, hP, rfl, rfl, rfl, rfl⟩
theorem Over_run (F : SF n T w nR ws st os ms rs fs) (hs : ROk n T w nR ws os ms W s) : Does Tryz.prog 75 [ptr ps 0] (sldR ps pf p bw bs pm bm bst bf n T w nR pw bw2 pz bz ws st ms rs fs wa wc (szL (lvs ms os)) s)
    (fun v l => ∃ t : Bool, (t = true ↔ ROv T nR os ms s) ∧ v = .bool t ∧ l = sldR ps pf p bw bs pm bm bst bf n T w nR pw bw2 pz bz ws st ms rs fs wa wc (szL (lvs ms os)) s) := by
  obtain ⟨Q, A, Z, hS⟩ := hs.si
  have hnR := F.nRT
  have htn := F.h.tn
  have hn6 := F.n6
  exact Over_spec hS.sl (by omega)
theorem Heap_run (F : SF n T w nR ws st os ms rs fs) (h1n : 1 ≤ n) (hs : ROk n T w nR ws os ms W s) (ho : ROv T nR os ms s) : Does Tryz.prog 38 [ptr ps 0] (sldR ps pf p bw bs pm bm bst bf n T w nR pw bw2 pz bz ws st ms rs fs wa wc (szL (lvs ms os)) s)
    (fun v l => ∃ (p' bw' bs' : Nat) (st' : List Bool), HT n (szL (lvs ms os)) (NWI T ws ms os) st' ∧ v = .tuple #[ptr p' 0, .int .i64 0] ∧ l = heapL p' bw' bs' n (NWI T ws ms os) (szL (lvs ms os)) st' ++ sldR ps pf p bw bs pm bm bst bf n T w nR pw bw2 pz bz ws st ms rs fs wa wc (szL (lvs ms os)) s) := by
  obtain ⟨Q, A, Z, hS⟩ := hs.si
  exact Heap14_ok F h1n hS ho
end ops
end Go.Proofs.YtfmkjbmogfhpbaaGreatDoor
set_option maxRecDepth 8000
namespace Go.Proofs.YtfmkjbmogfhpbaaGreatDoor.Ph
open Go.Sep Mk
structure PV where
  pc : Nat
  reg : Int
  ra : Option Addr
  rk : Nat
structure SV where
  ps : Nat
  pf : Nat
  w : Nat
  nR : Nat
  bst : Nat
  bf : Nat
  pw : Nat
  bw2 : Nat
  pz : Nat
  bz : Nat
  rs : List RG
  fs : List Int
  wa : Option Addr
  wc : Nat
inductive CS where
  | mk (s : MS)
  | sl (S : SV) (ms : List Nat) (r : RSt) (tv sv : Int)
abbrev colB (E : EV) (V : PV) (slide : Value) (steps : Int) : HP :=
  blk V.pc [.int .i64 E.W, .int .i64 E.rm, .int .i64 E.K, .int .i64 E.part, .int .i64 V.reg, ptr E.pM 0, ptr E.p 0, .slice V.ra E.rts.length V.rk, slide, .int .i64 steps] 102
abbrev rowR (E : EV) (V : PV) : HP := row 3 1 V.ra E.rts.length V.rk (intsV E.rts)
abbrev sldX (E : EV) (S : SV) (ms : List Nat) (r : RSt) : List HP := sldR S.ps S.pf E.p E.bw E.bs E.pk E.bm S.bst S.bf E.n E.T S.w S.nR S.pw S.bw2 S.pz S.bz E.ws E.st ms S.rs S.fs S.wa S.wc (szL (lvs ms E.os)) r
abbrev colM (E : EV) (V : PV) (s : MS) (steps : Int) : List HP := colB E V (.pointer none) steps :: rowR E V :: stL E s s.tv s.m
abbrev colZ (E : EV) (V : PV) (S : SV) (ms : List Nat) (r : RSt) (tv sv : Int) (steps : Int) : List HP := colB E V (ptr S.ps 0) steps :: rowR E V :: mB E tv sv :: sldX E S ms r
abbrev colS (E : EV) (V : PV) (steps : Int) : CS → List HP
  | .mk s => colM E V s steps
  | .sl S ms r tv sv => colZ E V S ms r tv sv steps
abbrev ZOv (E : EV) (S : SV) (ms : List Nat) (r : RSt) : Prop := ROv E.T S.nR E.os ms r
abbrev ZPhi (E : EV) (S : SV) (ms : List Nat) (r : RSt) : Nat := RPhi E.T S.w S.nR E.ws E.os ms r
structure ZOk (E : EV) (S : SV) (ms : List Nat) (r : RSt) : Prop where
  rm : RMk E.os E.rts ms
  rd : ∀ i, bitB ms i = true → ∃ (j : Nat) (o : RO), E.os[j]? = some o ∧ o.i = i ∧ Rch E.os E.rts j
  sf : SF E.n E.T S.w S.nR E.ws E.st E.os ms S.rs S.fs
  ok : ROk E.n E.T S.w S.nR E.ws E.os ms E.W r
structure KOk (E : EV) (s : MS) : Prop where
  inv : EI E s
  cap : Phi E.os E.rts.length E.part s ≤ 200 * E.T + 112
def COk (E : EV) (steps : Nat) : CS → Prop
  | .mk s => KOk E s ∧ s.m ≤ steps
  | .sl S ms r tv sv => ZOk E S ms r ∧ r.tv ≤ steps
abbrev Cn (E : EV) : Nat := 10 * (E.n + 10) * (E.n + 10) + 2
structure POk (E : EV) (V : PV) : Prop where
  e : EOk E
  n1 : 1 ≤ E.n
  n2 : E.n ≤ 5000
  S : E.rS = E.n
  reg : In64 V.reg
theorem POk.cap {E : EV} {V : PV} (h : POk E V) {s : MS} (hk : KOk E s) : Phi E.os E.rts.length E.part s < 200 * E.rS + 200 := by
  have h1 := hk.cap
  have h2 := h.e.h.tn
  have h3 := h.S
  omega
section ops
variable {E : EV} {V : PV} {s : MS} {S : SV} {ms : List Nat} {r : RSt} {tv sv steps : Int}
theorem turn_no (hI : EI E s) (hno : ¬ Over s) : Does Tryz.prog 74 [ptr V.pc 0] (colM E V s steps) (fun v l => v = .tuple #[] ∧ l = colM E V s steps) := by
  refine Does.of tiok Tryz.func74 (by kernel_rfl) rfl Tryz.ntmps74 rfl ?_
  intro W fr
  repeat' (first | refine Wka ?_ | intro _ | apply And.intro)
  refine JO_l (OL_call [2, 12, 12, 12] rfl rfl rfl Over_m rfl) rfl rfl ?_
  rintro _ _ ⟨_, ⟨rfl, rfl⟩, rfl⟩
  rw [over_dec hI, show decide (cntX s.X = E.W) = false from decide_eq_false fun e => hno ((over_iff hI).1 e)]
  repeat' (first | refine Wka ?_ | intro _ | apply And.intro)
  exact At_end rfl rfl .nil rfl (is := [4, 4, 0, 3, 3, 3, 3, 3, 3, 3, 3, 3, 3, 0, 0, 0, 0, 0, 0, 0]) rfl ⟨rfl, rfl⟩
theorem turn_sl : Does Tryz.prog 74 [ptr V.pc 0] (colZ E V S ms r tv sv steps) (fun v l => v = .tuple #[] ∧ l = colZ E V S ms r tv sv steps) := by
  refine Does.of tiok Tryz.func74 (by kernel_rfl) rfl Tryz.ntmps74 rfl ?_
  intro W fr
  repeat' (first | refine Wka ?_ | intro _ | apply And.intro)
  exact At_end rfl rfl .nil rfl (is := [0, 0, 0, 0, 0, 0, 0, 0, 0, 0, 0, 0, 0, 0, 0, 0, 0]) rfl ⟨rfl, rfl⟩
theorem Marks_m : Does Tryz.prog 42 [ptr E.pM 0] [mB E tv sv] (fun v l => v = ptr E.pk 0 ∧ l = [mB E tv sv]) := by
  refine Does.of tiok Tryz.func42 (by kernel_rfl) rfl Tryz.ntmps42 rfl ?_
  intro W fr
  repeat' (first | refine Wka ?_ | intro _ | apply And.intro)
  exact At_ret rfl rfl (.tmp rfl .nil) rfl (is := [0]) rfl ⟨rfl, rfl⟩
set_option maxHeartbeats 8000000 in
theorem turn_yes (hP : POk E V) (hk : KOk E s) (ho : Over s) : Does Tryz.prog 74 [ptr V.pc 0] (colM E V s steps)
    (fun v l => ∃ S r, ZOk E S s.ms r ∧ ZPhi E S s.ms r + 2 < Cn E ∧ r.tv = 0 ∧ v = .tuple #[] ∧ l = colZ E V S s.ms r s.tv s.m steps) := by
  have hI := hk.inv
  have hW1 := hP.e.W1
  have hW2 := hP.e.W2
  have hRM := over_marks hI hW1 ho hP.e.h hP.e.hc hP.e.hr hP.e.rt
  have hN := New_run (p := E.p) (bw := E.bw) (bs := E.bs) (pm := E.pk) (bm := E.bm) V.reg E.W ⟨hW1, by omega⟩ hP.reg hP.e.h hP.e.hc hI.mi (LeadP.of hP.e.h hP.e.hc hP.e.hr) (hRM.right hP.e.h hP.e.hc hP.e.hr) hP.n1 hP.n2
  refine Does.of tiok Tryz.func74 (by kernel_rfl) rfl Tryz.ntmps74 rfl ?_
  intro W fr
  repeat' (first | refine Wka ?_ | intro _ | apply And.intro)
  refine JO_l (OL_call [2, 12, 12, 12] rfl rfl rfl Over_m rfl) rfl rfl ?_
  rintro _ _ ⟨_, ⟨rfl, rfl⟩, rfl⟩
  rw [over_dec hI, show decide (cntX s.X = E.W) = true from decide_eq_true ((over_iff hI).2 ho)]
  repeat' (first | refine Wka ?_ | intro _ | apply And.intro)
  refine J_drawk [exP (fun _ : Value => True) (fun y => [colB E V y steps])] (fun H hl => (exP_in (r := []) (.pointer none) trivial (hl.perm (picks_perm (is := [4]) rfl)).left)) [0, 0, 0, 0, 5, 0, 0, 0, 5, 2, 0, 0, 0, 0, 5, 0, 0, 0, 0, 5, 2, 0, 0, 0, 0, 0, 2] [0, 1, 2, 3, 4, 5, 6, 7, 8, 10, 11, 12, 13, 14, 15, 16, 17, 18, 19, 9, 20, 21, 22, 23, 24, 25, 26] (by kernel_rfl) (by kernel_rfl) ?_
  repeat' (first | refine Wke ?_ | intro _ | apply And.intro)
  refine JX_kept rfl rfl (OK_exP fun y _ => OK_load rfl rfl (.head _) (by rfl)) rfl rfl ?_
  repeat' (first | refine Wke ?_ | intro _ | apply And.intro)
  refine JX_kept rfl rfl (OK_exP fun y _ => OK_load rfl rfl (.head _) (by rfl)) rfl rfl ?_
  repeat' (first | refine Wke ?_ | intro _ | apply And.intro)
  refine JX_kept rfl rfl (OK_exP fun y _ => OK_load rfl rfl (.head _) (by rfl)) rfl rfl ?_
  repeat' (first | refine Wke ?_ | intro _ | apply And.intro)
  refine JX_kept rfl rfl (OK_exP fun y _ => OK_load rfl rfl (.head _) (by rfl)) rfl rfl ?_
  repeat' (first | refine Wke ?_ | intro _ | apply And.intro)
  refine JX_lk rfl rfl (OL_call [0] rfl rfl rfl Marks_m rfl) rfl rfl ?_ ?_
  · rintro _ _ ⟨_, ⟨rfl, rfl⟩, rfl⟩ H hl
    exact exP_in (r := []) (.pointer none) trivial (hl.perm (picks_perm (is := [4]) rfl)).left
  rintro _ _ ⟨_, ⟨rfl, rfl⟩, rfl⟩ _
  repeat' (first | refine Wke ?_ | intro _ | apply And.intro)
  refine JX_lk rfl rfl (OL_call [6, 6, 6, 6, 6] rfl rfl rfl hN rfl) rfl rfl ?_ ?_
  · rintro _ _ ⟨_, ⟨ps, pf, w, nR, bst, bf, pw, bw2, pz, bz, rs, fs, wa, wc, r, _, _, _, _, _, _, rfl⟩, rfl⟩ H hl
    exact exP_in (r := []) (.pointer none) trivial (hl.perm (picks_perm (is := [18]) rfl)).left
  rintro _ _ ⟨_, ⟨ps, pf, w, nR, bst, bf, pw, bw2, pz, bz, rs, fs, wa, wc, r, hF, hr, hph, htv, hmv, rfl, rfl⟩, rfl⟩ _
  repeat' (first | refine Wke ?_ | intro _ | apply And.intro)
  refine JX_l0k rfl rfl (OL_store (i := 18) rfl rfl rfl rfl rfl rfl rfl (by rfl)) rfl ?_ ?_
  · rintro _ _ rfl H hl
    exact exP_in (r := []) (ptr ps 0) trivial (hl.perm (picks_perm (is := [0]) rfl)).left
  rintro _ _ rfl _
  repeat' (first | refine Wke ?_ | intro _ | apply And.intro)
  repeat' (first | refine Wka ?_ | intro _ | apply And.intro)
  exact At_end rfl rfl .nil rfl (is := [0, 18, 14, 0, 0, 0, 0, 0, 0, 0, 0, 0, 0, 0, 0, 0, 0]) rfl ⟨⟨ps, pf, w, nR, bst, bf, pw, bw2, pz, bz, rs, fs, wa, wc⟩, r, ⟨hRM, hI.rd, hF, hr⟩, Nat.add_lt_add_right hph 2, htv, rfl, rfl⟩
theorem Phase_no (hI : EI E s) (hno : ¬ Over s) : Does Tryz.prog 35 [ptr V.pc 0] (colM E V s steps) (fun v l => v = .int .i64 1 ∧ l = colM E V s steps) := by
  refine Does.of tiok Tryz.func35 (by kernel_rfl) rfl Tryz.ntmps35 rfl ?_
  intro W fr
  repeat' (first | refine Wka ?_ | intro _ | apply And.intro)
  refine JO_l (OL_callP (r := []) rfl rfl rfl (turn_no hI hno) (by rw [List.append_nil])) rfl rfl ?_
  rintro _ _ ⟨_, ⟨rfl, rfl⟩, rfl⟩
  rw [List.append_nil]
  repeat' (first | refine Wka ?_ | intro _ | apply And.intro)
  exact At_ret rfl rfl (.tmp rfl .nil) rfl (is := [0, 0, 0, 0, 0, 0, 0, 0, 0, 0, 0, 0, 0, 0, 0, 0, 0, 0, 0, 0]) rfl ⟨rfl, rfl⟩
theorem Phase_tail {Q : SV → List Nat → RSt → Int → Int → Prop} {Tn : List HP} (hT : Does Tryz.prog 74 [ptr V.pc 0] Tn (fun v l => ∃ S ms r tv sv, Q S ms r tv sv ∧ ZOk E S ms r ∧ v = .tuple #[] ∧ l = colZ E V S ms r tv sv steps)) :
    Does Tryz.prog 35 [ptr V.pc 0] Tn (fun v l => ∃ S ms r tv sv, ∃ ph : Int, Q S ms r tv sv ∧ ZOk E S ms r ∧ ((ZOv E S ms r ∧ ph = 3) ∨ (¬ ZOv E S ms r ∧ ph = 2)) ∧ v = .int .i64 ph ∧ l = colZ E V S ms r tv sv steps) := by
  refine Does.of tiok Tryz.func35 (by kernel_rfl) rfl Tryz.ntmps35 rfl ?_
  intro W fr
  repeat' (first | refine Wka ?_ | intro _ | apply And.intro)
  refine JO_l (OL_callP (r := []) rfl rfl rfl hT (by rw [List.append_nil])) rfl rfl ?_
  rintro _ _ ⟨_, ⟨S, ms, r, tv, sv, hQ, hz, rfl, rfl⟩, rfl⟩
  rw [List.append_nil]
  repeat' (first | refine Wka ?_ | intro _ | apply And.intro)
  refine JO_l (OL_call [3, 3, 3, 3, 3, 3, 3, 3, 3, 3, 3, 3, 3, 3] rfl rfl rfl (Over_run hz.sf hz.ok) rfl) rfl rfl ?_
  rintro _ _ ⟨_, ⟨t, ht, rfl, rfl⟩, rfl⟩
  cases t with
  | true =>
    repeat' (first | refine Wka ?_ | intro _ | apply And.intro)
    exact At_ret rfl rfl (.tmp rfl .nil) rfl (is := [14, 14, 14, 0, 0, 0, 0, 0, 0, 0, 0, 0, 0, 0, 0, 0, 0]) rfl ⟨S, ms, r, tv, sv, 3, hQ, hz, .inl ⟨ht.1 rfl, rfl⟩, rfl, rfl⟩
  | false =>
    repeat' (first | refine Wka ?_ | intro _ | apply And.intro)
    exact At_ret rfl rfl (.tmp rfl .nil) rfl (is := [14, 14, 14, 0, 0, 0, 0, 0, 0, 0, 0, 0, 0, 0, 0, 0, 0]) rfl ⟨S, ms, r, tv, sv, 2, hQ, hz, .inr ⟨fun e => absurd (ht.2 e) (by decide), rfl⟩, rfl, rfl⟩
def Turns (E : EV) : CS → SV → List Nat → RSt → Int → Int → Prop
  | .mk s, S, ms, r, tv, sv => Over s ∧ ZPhi E S ms r + 2 < Cn E ∧ r.tv = 0
  | .sl S0 ms0 r0 tv0 sv0, S, ms, r, tv, sv => S = S0 ∧ ms = ms0 ∧ r = r0 ∧ tv = tv0 ∧ sv = sv0
theorem Phase_sl {c : CS} {stn : Nat} (hP : POk E V) (hc : COk E stn c) (hno : ∀ s, c = .mk s → Over s) : Does Tryz.prog 35 [ptr V.pc 0] (colS E V steps c) (fun v l => ∃ S ms r tv sv, ∃ ph : Int, Turns E c S ms r tv sv ∧ ZOk E S ms r ∧ ((ZOv E S ms r ∧ ph = 3) ∨ (¬ ZOv E S ms r ∧ ph = 2)) ∧ v = .int .i64 ph ∧ l = colZ E V S ms r tv sv steps) := by
  cases c with
  | mk s =>
    refine Phase_tail ((turn_yes hP hc.1 (hno s rfl)).mono ?_)
    rintro v l ⟨S, r, hz, h1, h2, rfl, rfl⟩
    exact ⟨S, s.ms, r, _, _, ⟨hno s rfl, h1, h2⟩, hz, rfl, rfl⟩
  | sl S ms r tv sv =>
    refine Phase_tail (turn_sl.mono ?_)
    rintro v l ⟨rfl, rfl⟩
    exact ⟨S, ms, r, tv, sv, ⟨rfl, rfl, rfl, rfl, rfl⟩, hc.1, rfl, rfl⟩
end ops
end Go.Proofs.YtfmkjbmogfhpbaaGreatDoor.Ph
set_option maxRecDepth 8000
namespace Go.Proofs.YtfmkjbmogfhpbaaGreatDoor.Ph
open Go.Sep Mk
def StepC (E : EV) (c c' : CS) (w : Nat) (e : Int) : Prop :=
  (∃ s s', c = .mk s ∧ ¬ Over s ∧ c' = .mk s' ∧ EN E s s' w ∧ s'.m = s.m + 1 ∧ e = 0) ∨
  (∃ S ms r r' tv sv, Turns E c S ms r tv sv ∧ c' = .sl S ms r' tv sv ∧ RNx E.T S.w S.nR E.ws E.os ms r r' w ∧ ((ZOv E S ms r ∧ e = 12) ∨ (¬ ZOv E S ms r ∧ e = 0)))
section ops
variable {E : EV} {V : PV} {c : CS}
theorem KOk.next {E : EV} {s s' : MS} {w : Nat} (h : KOk E s) (hN : EN E s s' w) : KOk E s' := by
  refine ⟨hN.1, ?_⟩
  have h1 := h.cap
  rcases hN.2 with h2 | ⟨h2, _⟩ <;> omega
set_option maxHeartbeats 8000000 in
theorem CStep_spec {stn w : Nat} {draw : Int} (hP : POk E V) (hc : COk E stn c) (hst : stn ≤ 1000000000000) (hw : w < E.W) (hd : In64 draw) : Does Tryz.prog 11 [ptr V.pc 0, .int .i64 w, .int .i64 draw] (colS E V stn c)
    (fun v l => ∃ (c' : CS) (e : Int) (st' : Nat), StepC E c c' w e ∧ COk E st' c' ∧ ((e = 0 ∧ st' = stn + 1) ∨ (e = 12 ∧ st' = stn)) ∧ v = .int .i64 e ∧ l = colS E V st' c') := by
  have hW2 := hP.e.W2
  by_cases hno : ∃ s, c = .mk s ∧ ¬ Over s
  · obtain ⟨s, rfl, hno⟩ := hno
    obtain ⟨hk, hm⟩ := hc
    refine Does.of tiok Tryz.func11 (by kernel_rfl) rfl Tryz.ntmps11 rfl ?_
    intro W fr
    repeat' (first | refine Wka ?_ | intro _ | apply And.intro)
    refine JO_l (OL_callP (r := []) rfl rfl rfl (Phase_no hk.inv hno) (by rw [List.append_nil])) rfl rfl ?_
    rintro _ _ ⟨_, ⟨rfl, rfl⟩, rfl⟩
    rw [List.append_nil]
    repeat' (first | refine Wka ?_ | intro _ | apply And.intro)
    refine JO_l (OL_callP (r := [colB E V (.pointer none) stn, rowR E V]) rfl rfl rfl (MStep_spec hP.e hk.inv hw hd (by omega) (hP.cap hk)) (List.perm_append_comm (l₁ := [_, _]))) rfl rfl ?_
    rintro _ _ ⟨_, ⟨s', e, hS, rfl, rfl⟩, rfl⟩
    obtain ⟨_, rfl, hN, hm'⟩ := hS.resolve_left fun h => hno h.1
    refine JO_hp (l' := colM E V s' stn) (fun H hl => hl.perm (List.perm_append_comm (l₂ := [_, _]))) ?_
    repeat' (first | refine Wka ?_ | intro _ | apply And.intro)
    rw [show (stn : Int) + 1 = ((stn + 1 : Nat) : Int) from rfl]
    exact At_ret rfl rfl (.tmp rfl .nil) rfl (is := [0, 0, 0, 0, 0, 0, 0, 0, 0, 0, 0, 0, 0, 0, 0, 0, 0, 0, 0, 0]) rfl ⟨.mk s', 0, stn + 1, .inl ⟨s, s', rfl, hno, rfl, hN, hm', rfl⟩, ⟨hk.next hN, by omega⟩, .inl ⟨rfl, rfl⟩, rfl, rfl⟩
  · have hov : ∀ s, c = .mk s → Over s := fun s e => Classical.byContradiction fun h => hno ⟨s, e, h⟩
    refine Does.of tiok Tryz.func11 (by kernel_rfl) rfl Tryz.ntmps11 rfl ?_
    intro W fr
    repeat' (first | refine Wka ?_ | intro _ | apply And.intro)
    refine JO_l (OL_callP (r := []) rfl rfl rfl (Phase_sl hP hc hov) (by rw [List.append_nil])) rfl rfl ?_
    rintro _ _ ⟨_, ⟨S, ms, r, tv, sv, ph, hTn, hz, hph, rfl, rfl⟩, rfl⟩
    rw [List.append_nil]
    have hph2 : ph ≠ 1 := by rcases hph with ⟨_, h⟩ | ⟨_, h⟩ <;> omega
    have htv : r.tv ≤ stn := by
      cases c with
      | mk s => have := hTn.2.2; omega
      | sl S0 ms0 r0 tv0 sv0 =>
        obtain ⟨rfl, rfl, rfl, rfl, rfl⟩ := hTn
        exact hc.2
    have ht0 := hz.ok.t0
    repeat' (first | refine Wka ?_ | intro _ | apply And.intro)
    refine JO_l (OL_call [3, 3, 3, 3, 3, 3, 3, 3, 3, 3, 3, 3, 3, 3] rfl rfl rfl (Step_run hz.sf hz.ok (by omega) hw (by constructor <;> omega)) rfl) rfl rfl ?_
    rintro _ _ ⟨_, ⟨r', e, hr', hnx, he, rfl, rfl⟩, rfl⟩
    have hz' : ZOk E S ms r' := ⟨hz.rm, hz.rd, hz.sf, hr'⟩
    refine JO_hp (l' := colZ E V S ms r' tv sv stn) (fun H hl => hl.perm (picks_perm (is := [14, 14, 14]) rfl)) ?_
    rcases he with ⟨ho, rfl⟩ | ⟨ho, rfl⟩
    · have hrr : r' = r := by
        rcases hnx with ⟨_, h⟩ | ⟨h, _⟩
        · exact h
        · exact absurd ho h
      repeat' (first | refine Wka ?_ | intro _ | apply And.intro)
      exact At_ret rfl rfl (.tmp rfl .nil) rfl (is := [0, 0, 0, 0, 0, 0, 0, 0, 0, 0, 0, 0, 0, 0, 0, 0, 0]) rfl ⟨.sl S ms r' tv sv, 12, stn, .inr ⟨S, ms, r, r', tv, sv, hTn, rfl, hnx, .inl ⟨ho, rfl⟩⟩, ⟨hz', by rw [hrr]; exact htv⟩, .inr ⟨rfl, rfl⟩, rfl, rfl⟩
    · have htv' : r'.tv ≤ r.tv + 1 := by
        rcases hnx with ⟨_, rfl⟩ | ⟨_, h | h, _⟩ <;> omega
      repeat' (first | refine Wka ?_ | intro _ | apply And.intro)
      rw [show (stn : Int) + 1 = ((stn + 1 : Nat) : Int) from rfl]
      exact At_ret rfl rfl (.tmp rfl .nil) rfl (is := [0, 0, 0, 0, 0, 0, 0, 0, 0, 0, 0, 0, 0, 0, 0, 0, 0]) rfl ⟨.sl S ms r' tv sv, 0, stn + 1, .inr ⟨S, ms, r, r', tv, sv, hTn, rfl, hnx, .inr ⟨ho, rfl⟩⟩, ⟨hz', by push_cast; omega⟩, .inl ⟨rfl, rfl⟩, rfl, rfl⟩
end ops
end Go.Proofs.YtfmkjbmogfhpbaaGreatDoor.Ph
set_option maxRecDepth 8000
namespace Go.Proofs.YtfmkjbmogfhpbaaGreatDoor.Ph
open Go.Sep Mk
def CMeas (E : EV) (m0 : Nat) : CS → Prop
  | .mk s => Cn E ≤ m0 ∧ (Over s ∨ ∃ M, Meas E.os E.rts.length E.part E.W s 0 M ∧ M + 1 + Cn E ≤ m0)
  | .sl S ms r _ _ => ZOv E S ms r ∨ ZPhi E S ms r < m0
def CIn (E : EV) (m0 q : Nat) : CS → Prop
  | .mk s => (Over s ∧ Cn E ≤ m0 ∧ (q = 0 ∨ Cn E + 1 ≤ m0)) ∨ (¬ Over s ∧ q < E.W ∧ ∃ M, Meas E.os E.rts.length E.part E.W s q M ∧ M + 1 + Cn E + q ≤ m0) ∨ (¬ Over s ∧ q = E.W ∧ ∃ M, Meas E.os E.rts.length E.part E.W s 0 M ∧ M + 1 + Cn E + q ≤ m0)
  | .sl S ms r _ _ => (q = 0 ∧ (ZOv E S ms r ∨ ZPhi E S ms r < m0)) ∨ (1 ≤ m0 ∧ (ZOv E S ms r ∨ ∃ m1, m1 + 1 ≤ m0 ∧ RRnd E.T S.w S.nR E.ws E.os ms r m1 (fun j => j < q)))
theorem CIn.start {E : EV} {m0 : Nat} {c : CS} (h1 : 1 ≤ E.W) (h : CMeas E m0 c) : CIn E m0 0 c := by
  cases c with
  | mk s =>
    obtain ⟨h0, h⟩ := h
    by_cases ho : Over s
    · exact .inl ⟨ho, h0, .inl rfl⟩
    · obtain ⟨M, hM, hb⟩ := h.resolve_left ho
      exact .inr (.inl ⟨ho, h1, M, hM, hb⟩)
  | sl S ms r tv sv => exact .inl ⟨rfl, h⟩
theorem CIn.done {E : EV} {m0 stn : Nat} {c : CS} (h1 : 1 ≤ E.W) (hc : COk E stn c) (h : CIn E m0 E.W c) : 1 ≤ m0 ∧ CMeas E (m0 - 1) c := by
  cases c with
  | mk s =>
    rcases h with ⟨h0, h2, h3⟩ | ⟨_, h0, _⟩ | ⟨h0, _, M, hM, hb⟩
    · have := h3.resolve_left (by omega)
      exact ⟨by omega, by omega, .inl h0⟩
    · omega
    · exact ⟨by omega, by omega, .inr ⟨M, hM, by omega⟩⟩
  | sl S ms r tv sv =>
    rcases h with ⟨h0, _⟩ | ⟨h0, h2⟩
    · omega
    · refine ⟨h0, ?_⟩
      rcases h2 with h2 | ⟨m1, hm1, hr⟩
      · exact .inl h2
      · rcases hr.done hc.1.ok h1 (fun j hj => hj) with h3 | h3
        · exact .inl h3
        · exact .inr (Nat.lt_of_lt_of_le h3 (by omega))
theorem CIn.step {E : EV} {m0 stn q : Nat} {c c' : CS} {e : Int} (hE : EOk E) (hc : COk E stn c) (h : CIn E m0 q c) (hq : q < E.W) (hS : StepC E c c' q e) (he : e = 0) : CIn E m0 (q + 1) c' := by
  have hW := hE.W2
  rcases hS with ⟨s, s', rfl, hno, rfl, hN, hm, _⟩ | ⟨S, ms, r, r', tv, sv, hTn, rfl, hnx, hov⟩
  · rcases h with ⟨h0, _⟩ | ⟨_, _, M, hM, hb⟩ | ⟨_, h0, _⟩
    · exact absurd h0 hno
    · by_cases ho : Over s'
      · exact .inl ⟨ho, by omega, .inr (by omega)⟩
      · have hM' : ∃ M', Meas E.os E.rts.length E.part E.W s' (nxt E.W q) M' ∧ M' + 1 = M := by
          cases M with
          | zero => exact (meas_pos hc.1.inv hN.1 hN.2 hq hW ho hM).elim
          | succ M' => exact ⟨M', meas_step hc.1.inv hN.1 hN.2 hq hW ho hM, rfl⟩
        obtain ⟨M', hM', rfl⟩ := hM'
        unfold nxt at hM'
        by_cases e1 : q + 1 = E.W
        · rw [if_pos e1] at hM'
          exact .inr (.inr ⟨ho, e1, M', hM', by omega⟩)
        · rw [if_neg e1] at hM'
          exact .inr (.inl ⟨ho, by omega, M', hM', by omega⟩)
    · omega
  · have hno : ¬ ZOv E S ms r := by
      rcases hov with ⟨_, h2⟩ | ⟨hno, _⟩
      · omega
      · exact hno
    cases c with
    | mk s =>
      obtain ⟨ho, hph, _⟩ := hTn
      have h0 : Cn E ≤ m0 := by
        rcases h with ⟨_, h, _⟩ | ⟨h, _⟩ | ⟨h, _⟩
        · exact h
        · exact absurd ho h
        · exact absurd ho h
      refine .inr ⟨by omega, .inr ⟨ZPhi E S ms r + 1, by omega, .inr (.inl ?_)⟩⟩
      rcases hnx with ⟨h1, _⟩ | ⟨_, _, h2 | ⟨e1, e2, e3, e4, _⟩⟩
      · exact absurd h1 hno
      · exact Nat.lt_succ_of_lt h2
      · have : RPhi E.T S.w S.nR E.ws E.os ms r' = RPhi E.T S.w S.nR E.ws E.os ms r := by unfold RPhi; rw [e1, e3, e4]
        rw [this]
        exact Nat.lt_succ_self _
    | sl S0 ms0 r0 tv0 sv0 =>
      obtain ⟨rfl, rfl, rfl, rfl, rfl⟩ := hTn
      rcases h with ⟨rfl, h⟩ | ⟨h0, h⟩
      · have h := h.resolve_left hno
        have hR : RRnd E.T S.w S.nR E.ws E.os ms r (ZPhi E S ms r) (fun j => j < 0) := .inr (.inr ⟨Nat.le_refl _, fun j x hj _ => absurd hj (Nat.not_lt_zero _)⟩)
        refine .inr ⟨by omega, .inr ⟨ZPhi E S ms r, h, hR.step hnx fun i hi => ?_⟩⟩
        right
        have hi : i < 0 + 1 := hi
        omega
      · obtain ⟨m1, hm1, hR⟩ := h.resolve_left hno
        refine .inr ⟨h0, .inr ⟨m1, hm1, hR.step hnx fun i hi => ?_⟩⟩
        have hi : i < q + 1 := hi
        show i < q ∨ i = q
        omega
def slV : CS → Value
  | .mk _ => .pointer none
  | .sl S _ _ _ _ => ptr S.ps 0
def colT (E : EV) (V : PV) : CS → List HP
  | .mk s => rowR E V :: stL E s s.tv s.m
  | .sl S ms r tv sv => rowR E V :: mB E tv sv :: sldX E S ms r
theorem colS_eq {E : EV} {V : PV} {c : CS} {steps : Int} : colS E V steps c = colB E V (slV c) steps :: colT E V c := by cases c <;> rfl
set_option maxHeartbeats 16000000 in
theorem CRun_spec {E : EV} {V : PV} {c : CS} {stn m0 : Nat} (hP : POk E V) (hc : COk E stn c) (hm : CMeas E m0 c) (hb : stn + 8 * m0 ≤ 999999999000) : Does Tryz.prog 12 [ptr V.pc 0] (colS E V stn c)
    (fun v l => ∃ S ms r tv sv, ∃ st' : Nat, ∃ k : Int, ZOk E S ms r ∧ ZOv E S ms r ∧ r.tv ≤ st' ∧ st' ≤ 1000000000000 ∧ v = .int .i64 k ∧ l = colZ E V S ms r tv sv st') := by
  have hW1 := hP.e.W1
  have hW2 := hP.e.W2
  refine Does.of tiok Tryz.func12 (by kernel_rfl) rfl Tryz.ntmps12 rfl ?_
  intro W fr
  rw [colS_eq]
  repeat' (first | refine Wka ?_ | intro _ | apply And.intro)
  refine J_scope ?_
  repeat' (first | refine Wka ?_ | intro _ | apply And.intro)
  refine J_label ?_
  repeat' (first | refine Wka ?_ | intro _ | apply And.intro)
  refine J_loop (α := CS × Nat × Nat × Nat) (fun y => COk E y.2.1 y.1 ∧ CMeas E y.2.2.1 y.1 ∧ y.2.1 + 8 * y.2.2.1 ≤ 999999999000 ∧ y.2.2.2 + y.2.2.1 ≤ 1000000000000)
    (fun y => [(0, ptr V.pc 0), (3, .int .i64 stn), (4, .int .i64 y.2.2.2)]) (fun y => colB E V (slV y.1) y.2.1 :: colT E V y.1) (fun y => y.2.2.1) (c, stn, m0, 0) ⟨hc, hm, hb, by dsimp only; omega⟩ Sgt (fun H hl => hl) ?_
  rintro ⟨c1, n1, m1, d1⟩ ⟨h1, h2, h3, h4⟩
  dsimp only at h1 h2 h3 h4 ⊢
  repeat' (first | refine Wkb ?_ | intro _ | apply And.intro)
  refine J_block ?_
  repeat' (first | refine Wkb ?_ | intro _ | apply And.intro)
  refine J_block ?_
  refine J_loop (α := CS × Nat × Nat) (fun y => COk E y.2.1 y.1 ∧ CIn E m1 y.2.2 y.1 ∧ y.2.2 ≤ E.W ∧ y.2.1 ≤ n1 + y.2.2)
    (fun y => [(0, ptr V.pc 0), (3, .int .i64 stn), (4, .int .i64 d1), (16, .int .i64 E.W), (17, .int .i64 y.2.2)]) (fun y => colB E V (slV y.1) y.2.1 :: colT E V y.1) (fun y => E.W - y.2.2) (c1, n1, 0) ⟨h1, CIn.start hW1 h2, Nat.zero_le _, Nat.le_refl _⟩ Sgt (fun H hl => hl) ?_
  rintro ⟨c2, n2, q⟩ ⟨g1, g2, g3, g4⟩
  dsimp only at g1 g2 g3 g4 ⊢
  repeat' (first | refine Wkb ?_ | intro _ | apply And.intro)
  · rename_i hlt
    have hqW : q < E.W := by omega
    refine J_block ?_
    repeat' (first | refine Wka ?_ | intro _ | apply And.intro)
    refine JO_l (OL_callP (r := []) rfl rfl rfl (CStep_spec (c := c2) (stn := n2) hP g1 (by omega) hqW (show In64 (d1 : Int) by constructor <;> omega)) (by rw [List.append_nil, colS_eq])) rfl rfl ?_
    rintro _ _ ⟨_, ⟨c3, e, n3, hS, hc3, hn, rfl, rfl⟩, rfl⟩
    rw [List.append_nil, colS_eq]
    rcases hn with ⟨rfl, rfl⟩ | ⟨rfl, rfl⟩
    · repeat' (first | refine Wka ?_ | intro _ | apply And.intro)
      exact At_round (c3, n2 + 1, q + 1) (by show E.W - (q + 1) < E.W - q; omega) ⟨hc3, CIn.step hP.e g1 g2 hqW hS rfl, by show q + 1 ≤ E.W; omega, by show n2 + 1 ≤ n1 + (q + 1); omega⟩ Sgt (fun H hl => hl)
    · rcases hS with ⟨_, _, _, _, _, _, _, h⟩ | ⟨S, ms, r, r', tv, sv, hTn, rfl, hnx, hov⟩
      · cases h
      · have ho : ZOv E S ms r := by
          rcases hov with ⟨h, _⟩ | ⟨_, h⟩
          · exact h
          · cases h
        have hrr : r' = r := by
          rcases hnx with ⟨_, h⟩ | ⟨h, _⟩
          · exact h
          · exact absurd ho h
        subst hrr
        repeat' (first | refine Wka ?_ | intro _ | apply And.intro)
        refine At_scope_ret ?_
        exact At_ret rfl rfl (.tmp rfl .nil) rfl (is := [0, 0, 0, 0, 0, 0, 0, 0, 0, 0, 0, 0, 0, 0, 0, 0, 0]) rfl ⟨S, ms, r', tv, sv, n3, _, hc3.1, ho, hc3.2, by omega, rfl, rfl⟩
  · obtain rfl : q = E.W := by omega
    obtain ⟨k1, k2⟩ := CIn.done hW1 g1 g2
    repeat' (first | refine Wka ?_ | intro _ | apply And.intro)
    exact At_round (c2, n2, m1 - 1, d1 + 1) (by show m1 - 1 < m1; omega) ⟨g1, k2, by show n2 + 8 * (m1 - 1) ≤ 999999999000; omega, by show d1 + 1 + (m1 - 1) ≤ 1000000000000; omega⟩ Sgt (fun H hl => hl)
end Go.Proofs.YtfmkjbmogfhpbaaGreatDoor.Ph
set_option maxRecDepth 8000
namespace Go.Proofs.YtfmkjbmogfhpbaaGreatDoor.Ph
open Go.Sep Mk
section ops
variable {E : EV} {V : PV} {S : SV} {ms : List Nat} {r : RSt} {tv sv steps : Int}
set_option maxHeartbeats 8000000 in
theorem Result_spec (hP : POk E V) (hz : ZOk E S ms r) (ho : ZOv E S ms r) : Does Tryz.prog 13 [ptr V.pc 0] (colZ E V S ms r tv sv steps)
    (fun v l => ∃ (p' bw' bs' : Nat) (st' : List Bool) (out : List Int) (a' : Option Addr) (c' : Nat), HT E.n (szL (lvs ms E.os)) (NWI E.T E.ws ms E.os) st' ∧ out.length = E.rts.length ∧ (∀ (q : Nat) (z z' : Int), E.rts[q]? = some z → out[q]? = some z' → fwdW ms E.os z z') ∧
      v = .tuple #[ptr p' 0, .slice a' E.rts.length c', .int .i64 0] ∧ l = heapL p' bw' bs' E.n (NWI E.T E.ws ms E.os) (szL (lvs ms E.os)) st' ++ (row 3 1 a' E.rts.length c' (intsV out) :: colZ E V S ms r tv sv steps)) := by
  have hR2 := hP.e.R2
  refine Does.of tiok Tryz.func13 (by kernel_rfl) rfl Tryz.ntmps13 rfl ?_
  intro W fr
  refine J_row (i := 1) rfl fun hr => ?_
  have hRo : Reads (rowR E V) 1 E.rts.length V.ra V.rk (intsV E.rts) := Reads.row hr.1 hr.2.1
  have hPh := Phase_tail (Q := fun S1 ms1 r1 tv1 sv1 => S = S1 ∧ ms = ms1 ∧ r = r1 ∧ tv = tv1 ∧ sv = sv1) ((turn_sl (E := E) (V := V) (S := S) (ms := ms) (r := r) (tv := tv) (sv := sv) (steps := steps)).mono (fun v l => by
    rintro ⟨rfl, rfl⟩
    exact ⟨S, ms, r, tv, sv, ⟨rfl, rfl, rfl, rfl, rfl⟩, hz, rfl, rfl⟩))
  repeat' (first | refine Wka ?_ | intro _ | apply And.intro)
  refine JO_l (OL_callP (r := []) rfl rfl rfl hPh (by rw [List.append_nil])) rfl rfl ?_
  rintro _ _ ⟨_, ⟨_, _, _, _, _, ph, ⟨rfl, rfl, rfl, rfl, rfl⟩, _, hph, rfl, rfl⟩, rfl⟩
  rw [List.append_nil]
  obtain rfl : ph = 3 := by
    rcases hph with ⟨_, h⟩ | ⟨h, _⟩
    · exact h
    · exact absurd ho h
  repeat' (first | refine Wka ?_ | intro _ | apply And.intro)
  refine JO_l (OL_call [3, 3, 3, 3, 3, 3, 3, 3, 3, 3, 3, 3, 3, 3] rfl rfl rfl (Heap_run hz.sf hP.n1 hz.ok ho) rfl) rfl rfl ?_
  rintro _ _ ⟨_, ⟨p', bw', bs', st', hHT, rfl, rfl⟩, rfl⟩
  repeat' (first | refine Wka ?_ | intro _ | apply And.intro)
  refine J_draw [0, 0, 0, 1, 0, 0, 0, 1, 2, 0, 0, 0, 0, 0] (List.range 14) (by kernel_rfl) (by kernel_rfl) ?_
  repeat' (first | refine Wkd ?_ | intro _ | apply And.intro)
  refine JX_l rfl rfl (OL_call [3, 3, 3, 3, 3, 3, 3, 3, 3, 3, 3, 3, 3, 3, 4] rfl rfl rfl (Roots_spec hz.sf.h hz.sf.hc hz.sf.hM hz.sf.hF hz.sf.hR hRo (by omega) ?_) rfl) rfl rfl ?_
  · intro z hz
    have htn := hP.e.h.tn
    have hnb := hP.e.h.nb
    rcases hP.e.rt z hz with rfl | ⟨j, o, hj, rfl, _⟩
    · constructor <;> decide
    · have := hP.e.hc.o_lt hj
      constructor <;> omega
  rintro _ _ ⟨_, hrs, rfl⟩
  obtain ⟨out, ao, co, hol, hfw, _, rfl, rfl⟩ := hrs.resolve_right fun h => h.1 (RMk.roots (n := E.n) (T := E.T) (ws := E.ws) (st := E.st) hP.e.rt hz.rm)
  clear hrs
  repeat' (first | refine Wkd ?_ | intro _ | apply And.intro)
  repeat' (first | refine Wka ?_ | intro _ | apply And.intro)
  exact At_ret rfl rfl (.tmp rfl (.tmp rfl (.tmp rfl .nil))) rfl (is := [16, 16, 16, 0, 15, 14, 14, 0, 0, 0, 0, 0, 0, 0, 0, 0, 0, 0, 0, 0, 0]) rfl ⟨p', bw', bs', st', out, ao, co, hHT, hol, hfw, rfl, rfl⟩
set_option maxHeartbeats 16000000 in
theorem CNew_spec {p bw bs n T : Nat} {ws : List Int} {st : List Bool} {os : List RO} {la : Option Addr} {lc : Nat} {rts : List Int} {Rl : HP} {W rm K part : Nat} {reg : Int} (h : HT n T ws st) (hc : Ch ws 0 os T) (hr : RefsOk ws st) (h1 : 1 ≤ n) (h2 : n ≤ 5000)
    (hz : ∀ z ∈ rts, z = 0 ∨ ∃ (j : Nat) (o : RO), os[j]? = some o ∧ z = (o.i : Int) + 1 ∧ o.k ≠ 15) (hl : rts.length ≤ 14) (hRl : Reads Rl 1 rts.length la lc (intsV rts)) (hW : 1 ≤ W ∧ W ≤ 7) (hrm : 2 ≤ rm ∧ rm ≤ 1024) (hK : 1 ≤ K ∧ K ≤ 4095) (hp : 1 ≤ part ∧ part ≤ 64) (hreg : In64 reg) :
    Does Tryz.prog 10 [ptr p 0, .slice la rts.length lc, .agg #[.int .i64 W, .int .i64 rm, .int .i64 K, .int .i64 part, .int .i64 reg]] (heapL p bw bs n ws T st ++ [Rl])
    (fun v l => ∃ (E : EV) (V : PV), POk E V ∧ KOk E (ms0 E.n E.W E.rm E.rS) ∧ p = E.p ∧ bw = E.bw ∧ bs = E.bs ∧ n = E.n ∧ T = E.T ∧ ws = E.ws ∧ st = E.st ∧ os = E.os ∧ rts = E.rts ∧ W = E.W ∧ V.reg = reg ∧
      v = .tuple #[ptr V.pc 0, .int .i64 0] ∧ l = Rl :: colM E V (ms0 E.n E.W E.rm E.rS) 0) := by
  refine Does.of tiok Tryz.func10 (by kernel_rfl) rfl Tryz.ntmps10 rfl ?_
  intro W' fr
  have hpo : Rt.partOf (part : Int) = (part : Int) := by unfold Rt.partOf; split <;> split at * <;> omega
  repeat' (first | refine Wka ?_ | intro _ | apply And.intro)
  refine JO_l (OL_call [] rfl rfl rfl (Rt.rootsNew (part : Int)) rfl) rfl rfl ?_
  rintro _ _ ⟨_, ⟨pr, rc, rw_, rfl, rfl⟩, rfl⟩
  rw [hpo]
  repeat' (first | refine Wka ?_ | intro _ | apply And.intro)
  rename_i bx
  refine J_loop (α := Nat × Option Addr × Nat) (fun y => y.1 ≤ rts.length)
    (fun y => [(0, ptr p 0), (5, ptr bx 0), (8, ptr pr 0), (20, .slice la rts.length lc), (21, .int .i64 rts.length), (22, .int .i64 y.1)])
    (fun y => Rt.rootsZ pr rc rw_ 0 y.2.1 y.2.2 (rts.take y.1) part ++ (blk bx [.int .i64 W, .int .i64 rm, .int .i64 K, .int .i64 part, .int .i64 reg] 42 :: (heapL p bw bs n ws T st ++ [Rl])))
    (fun y => rts.length - y.1) (0, none, 0) (Nat.zero_le _) Sgt (fun H hl => hl) ?_
  rintro ⟨q, ar, cr⟩ hq
  dsimp only at hq ⊢
  repeat' (first | refine Wkb ?_ | intro _ | apply And.intro)
  · rename_i hlt
    have hlt : q < rts.length := by omega
    refine J_block ?_
    have hy : rts[q]? = some (rts[q]'hlt) := List.getElem?_eq_getElem _
    generalize rts[q]'hlt = y at hy
    have hy0 : 0 ≤ y := by
      rcases hz y (List.mem_of_getElem? hy) with h0 | ⟨_, _, _, h0, _⟩ <;> omega
    have htk : rts.take q ++ [y] = rts.take (q + 1) := by rw [List.take_add_one, hy]; rfl
    refine J_fact _ (fun w hs => hRl.some (by omega) hs (by simp)) ?_
    rintro ⟨b2, o2, rfl⟩
    repeat' (first | refine Wka ?_ | intro _ | apply And.intro)
    refine JO_val (OV_idx (off := o2 + q) rfl rfl rfl rfl (by omega) (by omega) (by omega)) rfl rfl ?_
    refine JO_q (OQ_read (i := q) (v := .int .i64 y) hRl (by simp) rfl rfl (by omega) (by simp [intsV, hy])) rfl rfl ?_
    repeat' (first | refine Wka ?_ | intro _ | apply And.intro)
    refine JO_l (OL_call [0, 0, 0] rfl rfl rfl (Rt.Push_ok y hy0 (by rw [List.length_take]; omega)) rfl) rfl rfl ?_
    rintro _ _ ⟨_, ⟨ar', cr', rfl, rfl⟩, rfl⟩
    rw [htk]
    repeat' (first | refine Wka ?_ | intro _ | apply And.intro)
    exact At_round (q + 1, ar', cr') (by show rts.length - (q + 1) < rts.length - q; omega) (by show q + 1 ≤ rts.length; omega) Sgt (fun H hl => hl)
  · obtain rfl : q = rts.length := by omega
    rw [List.take_length]
    repeat' (first | refine Wka ?_ | intro _ | apply And.intro)
    refine JO_l (OL_call [4, 4, 4, 0, 0, 0] rfl rfl rfl (MNew_run (part := part) h hc hr h1 (by omega) hz (by omega) hW hrm hK hp) rfl) rfl rfl ?_
    rintro _ _ ⟨_, ⟨E, hE, rfl, rfl, rfl, rfl, rfl, rfl, rfl, rfl, rfl, rfl, rfl, rfl, rfl, rfl, rfl, rfl, rfl, rfl, hS, rfl, rfl⟩, rfl⟩
    repeat' (first | refine Wka ?_ | intro _ | apply And.intro)
    refine J_drawk [blk bx [.int .i64 E.W, .int .i64 E.rm, .int .i64 E.K, .int .i64 E.part, .int .i64 reg] 42] (fun H hl => (hl.perm (picks_perm (is := [18]) rfl)).left) [5, 0, 0, 0, 2, 0, 2, 0, 0] (List.range 9) (by kernel_rfl) (by kernel_rfl) ?_
    repeat' (first | refine Wke ?_ | intro _ | apply And.intro)
    refine JX_lk rfl rfl (OL_call [6, 6, 6] rfl rfl rfl (Rt.rootsAll (by omega)) rfl) rfl rfl ?_ ?_
    · rintro _ _ ⟨_, ⟨a', cap', _, rfl, rfl⟩, rfl⟩ H hl
      exact (hl.perm (picks_perm (is := [19]) rfl)).left
    rintro _ _ ⟨_, ⟨a', cap', hn', rfl, rfl⟩, rfl⟩ _
    repeat' (first | refine Wke ?_ | intro _ | apply And.intro)
    refine JX_lk rfl rfl (OL_box rfl rfl) rfl rfl ?_ ?_
    · rintro _ _ ⟨_, rfl, rfl⟩ H hl
      exact (hl.perm (picks_perm (is := [20]) rfl)).left
    rintro _ _ ⟨pc, rfl, rfl⟩ _
    repeat' (first | refine Wke ?_ | intro _ | apply And.intro)
    repeat' (first | refine Wka ?_ | intro _ | apply And.intro)
    have hKO : KOk E (ms0 E.n E.W E.rm E.rS) := ⟨MInv.new h.nb hW.1 hrm.2 (by omega), phi_new hc hl hW.2⟩
    exact At_ret rfl rfl (.tmp rfl (.tmp rfl .nil)) rfl (is := [21, 0, 0, 3, 3, 3, 3, 3, 3, 0, 0, 0, 0, 0, 0, 0, 0, 0, 0, 0, 0]) rfl ⟨E, ⟨pc, reg, a', cap'⟩, ⟨hE, h1, h2, hS, hreg⟩, hKO, rfl, rfl, rfl, rfl, rfl, rfl, rfl, rfl, rfl, rfl, rfl, rfl, rfl⟩
end ops
end Go.Proofs.YtfmkjbmogfhpbaaGreatDoor.Ph
namespace Go.Sep
theorem Reads.first {R : HP} {sz m cap : Nat} {a : Option Addr} {cs : List Value} (h : Reads R sz m a cap cs) {n : Nat} (hn : n ≤ m) : Reads R sz n a cap (cs.take (n * sz)) := by
  have hl := h.len
  have hk : n * sz ≤ m * sz := Nat.mul_le_mul_right sz hn
  refine ⟨by rw [List.length_take]; omega, fun e => ⟨by have := (h.empty e).1; omega, (h.empty e).2⟩, fun W l w hs hm i hi => ?_⟩
  obtain ⟨b, o, e, hc⟩ := h.cell W l w hs hm i (by omega)
  exact ⟨b, o, e, by rw [hc, List.getElem?_take_of_lt hi]⟩
end Go.Sep
namespace Go.Proofs.YtfmkjbmogfhpbaaGreatDoor
open Go.Sep
def cutG (g : GG) (k : Nat) : GG := ⟨g.ns.take k, g.na, g.nc, g.rs, g.ra, g.rc⟩
theorem GOk.cut {R : HP} {g : GG} (h : GOk R g) {k : Nat} (hk : k ≤ g.ns.length) : GOk R (cutG g k) := by
  have e : (g.ns.take k).length = k := by rw [List.length_take]; omega
  refine ⟨fun y hy => h.nd y (List.mem_of_mem_take hy), ?_, ?_, h.rr, h.rb, h.rl⟩
  · have h1 := h.rn.first (n := k) hk
    rw [flat_takeN (f := cellsN) (fun _ => rfl)] at h1
    show Reads R 3 (g.ns.take k).length g.na g.nc ((g.ns.take k).flatMap cellsN)
    rw [e]
    exact h1
  · show (g.ns.take k).length ≤ _
    have := h.nl
    omega
theorem Ch.cov {ws : List Int} : ∀ {os : List RO} {i T x : Nat}, Ch ws i os T → i ≤ x → x < T → ∃ (j : Nat) (o : RO) (t : Nat), os[j]? = some o ∧ t < 1 + o.ws.length ∧ x = o.i + t
  | [], i, T, x, h, h1, h2 => by have : i = T := h; omega
  | o :: r, i, T, x, h, h1, h2 => by
    have hi := h.1
    rcases Nat.lt_or_ge x (i + 1 + o.ws.length) with e | e
    · exact ⟨0, o, x - i, rfl, by omega, by omega⟩
    · obtain ⟨j, o', t, k1, k2, k3⟩ := Ch.cov h.2.2.2.2 e h2
      exact ⟨j + 1, o', t, k1, k2, k3⟩
section all
variable {n T : Nat} {ws : List Int} {st : List Bool} {os : List RO} {ms : List Nat}
end all
open Go.Sep
section same
variable {os : List RO} {ms ms' : List Nat}
theorem lvs_same (h : ∀ o ∈ os, lvB ms o = lvB ms' o) : lvs ms os = lvs ms' os := List.filter_congr h
theorem goI_same (h : ∀ o ∈ os, lvB ms o = lvB ms' o) (j : Nat) : goI ms os j = goI ms' os j := by
  unfold goI
  rw [lvs_same fun o ho => h o (List.mem_of_mem_take ho)]
theorem fwI_same (h : ∀ o ∈ os, lvB ms o = lvB ms' o) (z : Int) : fwI ms os z = fwI ms' os z := by
  unfold fwI
  split
  · rw [goI_same h]
  · rfl
theorem nwO_same (h : ∀ o ∈ os, lvB ms o = lvB ms' o) : nwO ms os = nwO ms' os := by
  funext o
  unfold nwO fwL
  simp only [fwI_same h]
theorem NWI_same (h : ∀ o ∈ os, lvB ms o = lvB ms' o) (T : Nat) (ws : List Int) : NWI T ws ms os = NWI T ws ms' os := by
  unfold NWI
  rw [lvs_same h, nwO_same h]
theorem RMk.same {rts : List Int} (h : RMk os rts ms) (h' : RMk os rts ms') : ∀ o ∈ os, lvB ms o = lvB ms' o := by
  intro o ho
  obtain ⟨j, hj⟩ := List.getElem?_of_mem ho
  exact Bool.eq_iff_iff.2 ((h j o hj).trans (h' j o hj).symm)
end same
theorem marks_of {n T : Nat} {ws : List Int} {st : List Bool} {os : List RO} (h : HT n T ws st) (hc : Ch ws 0 os T) (out : List Bool) : ∃ ms, MI n ms ∧ ∀ (j : Nat) (o : RO), os[j]? = some o → (bitB ms o.i = true ↔ out[j]? = some true) := by
  have htn := h.tn
  have : ∀ q, q ≤ os.length → ∃ ms, MI n ms ∧ ∀ (j : Nat) (o : RO), os[j]? = some o → (bitB ms o.i = true ↔ j < q ∧ out[j]? = some true) := by
    intro q
    induction q with
    | zero => exact fun _ => ⟨_, MI.new h.nb, fun j o _ => by rw [bitB_zero]; simp⟩
    | succ q ih =>
      intro hq
      obtain ⟨ms, hM, hI⟩ := ih (by omega)
      obtain ⟨o, ho⟩ : ∃ o, os[q]? = some o := ⟨os[q]'(by omega), List.getElem?_eq_getElem _⟩
      have hot := hc.o_lt ho
      by_cases hb : out[q]? = some true
      · refine ⟨setM ms o.i, hM.set (by omega), fun j o2 hj => ?_⟩
        rw [bitB_set hM (by omega), Bool.or_eq_true, decide_eq_true_iff, hI j o2 hj]
        constructor
        · rintro (⟨h1, h2⟩ | h1)
          · exact ⟨by omega, h2⟩
          · have := Ch.one hc hj ho h1
            subst this
            exact ⟨by omega, hb⟩
        · rintro ⟨h1, h2⟩
          by_cases e : j = q
          · subst e
            rw [ho] at hj; injection hj with hj; right; rw [hj]
          · exact .inl ⟨by omega, h2⟩
      · refine ⟨ms, hM, fun j o2 hj => ?_⟩
        rw [hI j o2 hj]
        constructor
        · exact fun ⟨h1, h2⟩ => ⟨by omega, h2⟩
        · rintro ⟨h1, h2⟩
          refine ⟨?_, h2⟩
          by_cases e : j = q
          · subst e; exact absurd h2 hb
          · omega
  obtain ⟨ms, hM, hI⟩ := this os.length (Nat.le_refl _)
  refine ⟨ms, hM, fun j o hj => ?_⟩
  rw [hI j o hj]
  have hjl := (List.getElem?_eq_some_iff.1 hj).1
  exact ⟨fun h => h.2, fun h => ⟨hjl, h⟩⟩
theorem reached_marks {n T : Nat} {ws : List Int} {st : List Bool} {os : List RO} {rts : List Int} (h : HT n T ws st) (hc : Ch ws 0 os T) (hr : RefsOk ws st) (hrt : ∀ z ∈ rts, z = 0 ∨ ∃ (j : Nat) (o : RO), os[j]? = some o ∧ z = (o.i : Int) + 1 ∧ o.k ≠ 15)
    {out : List Bool} (hol : out.length = os.length) (hrch : ∀ j : Nat, out[j]? = some true ↔ Rch os rts j) : ∃ ms, MI n ms ∧ RMk os rts ms ∧ boolsV out = stB ms os := by
  obtain ⟨ms, hM, hI⟩ := marks_of h hc out
  have hRM : RMk os rts ms := fun j o hj => by
    rw [← hrch j]
    unfold lvB
    rw [Bool.and_eq_true, decide_eq_true_iff, hI j o hj]
    exact ⟨fun ⟨_, h3⟩ => h3, fun h3 => ⟨rch_live h hc hr hrt ((hrch j).1 h3) hj, h3⟩⟩
  refine ⟨ms, hM, hRM, ?_⟩
  apply List.ext_getElem?
  intro j
  rw [List.getElem?_map, List.getElem?_map]
  cases hj : os[j]? with
  | none =>
    rw [List.getElem?_eq_none_iff] at hj
    rw [List.getElem?_eq_none (by omega)]; rfl
  | some o =>
    have hjl := (List.getElem?_eq_some_iff.1 hj).1
    rw [List.getElem?_eq_getElem (by omega)]
    show some (Value.bool _) = some (Value.bool (lvB ms o))
    congr 2
    have h1 := hRM j o hj
    rw [← hrch j, List.getElem?_eq_getElem (by omega)] at h1
    have h2 : (lvB ms o = true ↔ out[j]'(by omega) = true) := h1.trans ⟨fun e => by injection e, fun e => by rw [e]⟩
    exact (Bool.eq_iff_iff.2 h2).symm
end Go.Proofs.YtfmkjbmogfhpbaaGreatDoor
set_option maxRecDepth 8000
namespace Go.Proofs.YtfmkjbmogfhpbaaGreatDoor
open Go.Sep
theorem Numbers15_spec {x0 x1 x2 x3 x4 : Int} (h0 : 0 ≤ x0 ∧ x0 ≤ 255) (h1 : 0 ≤ x1 ∧ x1 ≤ 255) (h2 : 0 ≤ x2 ∧ x2 ≤ 255) (h3 : 0 ≤ x3 ∧ x3 ≤ 255) (h4 : 0 ≤ x4 ∧ x4 ≤ 255) :
    Does Tryz.prog 9 [.agg #[.int .u8 x0, .int .u8 x1, .int .u8 x2, .int .u8 x3, .int .u8 x4]] [] (fun v l => v = .agg #[.int .i64 (1 + x0 % 7), .int .i64 (2 + x1 % 6), .int .i64 (1 + x2 % 5), .int .i64 (1 + x3 % 5), .int .i64 (2 + x4 % 20)] ∧ l = []) := by
  refine Does.of tiok Tryz.func9 (by kernel_rfl) rfl Tryz.ntmps9 rfl ?_
  intro W fr
  repeat' (first | refine Wka ?_ | intro _ | apply And.intro)
  refine JO_val (OV_idxA (off := 0) rfl rfl rfl rfl (by omega) (by decide) (by rfl)) rfl rfl ?_
  repeat' (first | refine Wka ?_ | intro _ | apply And.intro)
  refine JO_val (OV_idxA (off := 1) rfl rfl rfl rfl (by omega) (by decide) (by rfl)) rfl rfl ?_
  repeat' (first | refine Wka ?_ | intro _ | apply And.intro)
  refine JO_val (OV_idxA (off := 2) rfl rfl rfl rfl (by omega) (by decide) (by rfl)) rfl rfl ?_
  repeat' (first | refine Wka ?_ | intro _ | apply And.intro)
  refine JO_val (OV_idxA (off := 3) rfl rfl rfl rfl (by omega) (by decide) (by rfl)) rfl rfl ?_
  repeat' (first | refine Wka ?_ | intro _ | apply And.intro)
  refine JO_val (OV_idxA (off := 4) rfl rfl rfl rfl (by omega) (by decide) (by rfl)) rfl rfl ?_
  repeat' (first | refine Wka ?_ | intro _ | apply And.intro)
  exact At_ret rfl rfl (.agg rfl rfl rfl Mmt (by rfl) .nil) rfl (is := []) rfl ⟨rfl, rfl⟩
set_option maxHeartbeats 16000000 in
theorem Collected_spec {n T : Nat} {ws : List Int} {st : List Bool} {os : List RO} {rts : List Int} {a ra : Option Addr} {cap rc : Nat} {Rr : HP} (size : Int) (h : HT n T ws st) (hc : Ch ws 0 os T) (hr : RefsOk ws st) (hrt : ∀ z ∈ rts, z = 0 ∨ ∃ (j : Nat) (o : RO), os[j]? = some o ∧ z = (o.i : Int) + 1 ∧ o.k ≠ 15) (hRo : Reads Rr 1 rts.length ra rc (intsV rts)) (hrl : rts.length ≤ 14) (hn5 : n ≤ 5000) :
    Does Tryz.prog 8 [refV size a os.length cap, .slice ra rts.length rc] (refL a cap os ++ [Rr])
    (fun v l => ∃ (ms : List Nat) (b : Nat) (os' : List RO) (a' : Option Addr) (cap' : Nat) (la : Option Addr) (lc : Nat), MI n ms ∧ RMk os rts ms ∧ Ch (NWI T ws ms os) 0 os' (szL (lvs ms os)) ∧
      v = .tuple #[refV size a' os'.length cap', .slice la rts.length lc] ∧ l = refL a' cap' os' ++ (rowz 3 1 la rts.length lc (intsV (rts.map (fwI ms os))) :: blk b (stB ms os) 4 :: (refL a cap os ++ [Rr]))) := by
  have htn := h.tn
  have hnb := h.nb
  have hlen := hc.len
  have hld := LeadP.of h hc hr
  refine Does.of tiok Tryz.func8 (by kernel_rfl) rfl Tryz.ntmps8 rfl ?_
  intro W fr
  repeat' (first | refine Wka ?_ | intro _ | apply And.intro)
  refine JO_l (OL_call [2, 2, 2] rfl rfl rfl (Reach_spec size h hc hld (fun z hz => (hrt z hz).imp id fun ⟨j, o, h1, h2, _⟩ => ⟨j, o, h1, h2⟩) hRo (by omega)) rfl) rfl rfl ?_
  rintro _ _ ⟨_, ⟨out, b, hol, hrch, rfl, rfl⟩, rfl⟩
  obtain ⟨ms, hM, hRM, hbo⟩ := reached_marks h hc hr hrt hol hrch
  have hRs : Reads (blk b (stB ms os) 4) 1 os.length (some ⟨b, 0, none⟩) os.length (stB ms os) := Reads.blk (by simp)
  rw [hbo]
  clear hbo hrch hol
  repeat' (first | refine Wka ?_ | intro _ | apply And.intro)
  rename_i bx b4
  refine J_loop (α := Nat × Option Addr × Nat) (fun x => x.1 ≤ rts.length)
    (fun x => [(2, ptr bx 0), (4, ptr b4 0), (6, sl b os.length), (7, .slice x.2.1 x.1 x.2.2), (15, .slice ra rts.length rc), (16, .int .i64 rts.length), (17, .int .i64 x.1)])
    (fun x => rowz 3 1 x.2.1 x.1 x.2.2 (intsV ((rts.take x.1).map (fwI ms os))) :: blk b (stB ms os) 4 :: (refL a cap os ++ [Rr, blk b4 [.int .i64 0, .slice none 0 0] 36, blk bx [.int .i64 size, .slice a os.length cap] 36]))
    (fun x => rts.length - x.1) (0, none, 0) (Nat.zero_le _) Sgt (fun H hl => rowz_nil (T := 3) (sz := 1) (a := none) hl) ?_
  rintro ⟨i, la, lc⟩ hi
  dsimp only at hi ⊢
  repeat' (first | refine Wkb ?_ | intro _ | apply And.intro)
  · rename_i hlt
    refine J_block ?_
    obtain ⟨z, hzi⟩ : ∃ z, rts[i]? = some z := ⟨rts[i]'(by omega), List.getElem?_eq_getElem _⟩
    have hnx : intsV ((rts.take (i + 1)).map (fwI ms os)) = intsV ((rts.take i).map (fwI ms os)) ++ [.int .i64 (fwI ms os z)] := by
      rw [take_next hzi, List.map_append]
      exact List.map_append
    have hW : Does Tryz.prog 29 [refV size a os.length cap, sl b os.length, .int .i64 z] (refL a cap os ++ [blk b (stB ms os) 4]) (fun v l => v = .tuple #[.int .i64 (fwI ms os z), .bool true] ∧ l = refL a cap os ++ [blk b (stB ms os) 4]) := by
      rcases hrt z (List.mem_of_getElem? hzi) with rfl | ⟨j, o, hj, rfl, _⟩
      · rw [fwI_zero]
        exact W14_zero size
      · have hl : lvB ms o = true := (hRM j o hj).2 (.root (List.mem_of_getElem? hzi) hj rfl)
        have h1 := W14_obj (a := a) (cap := cap) size h hc (by have := hc.sz; omega) hRs hj
        rw [hl] at h1
        rw [fwI_obj hc hj]
        exact h1
    refine J_fact _ (fun w hs => hRo.some (by omega) hs (by simp)) ?_
    rintro ⟨r0, q0, rfl⟩
    repeat' (first | refine Wka ?_ | intro _ | apply And.intro)
    refine JO_val (OV_idx (off := q0 + i) rfl rfl rfl rfl (by omega) (by omega) (by omega)) rfl rfl ?_
    refine JO_q (OQ_read (i := i) (v := .int .i64 z) hRo (by simp) rfl rfl (by omega) (by simp [hzi])) rfl rfl ?_
    repeat' (first | refine Wka ?_ | intro _ | apply And.intro)
    refine JO_l (OL_call [2, 2, 1] rfl rfl rfl hW rfl) rfl rfl ?_
    rintro _ _ ⟨_, ⟨rfl, rfl⟩, rfl⟩
    repeat' (first | refine Wka ?_ | intro _ | apply And.intro)
    refine JO_l (OL_buildSlice (cs := [.int .i64 (fwI ms os z)]) rfl rfl rfl rfl rfl rfl rfl rfl) rfl rfl ?_
    rintro _ _ ⟨bb, rfl, rfl⟩
    refine JO_l (OL_appendr (m := 1) rfl rfl rfl rfl rfl (by first | exact P0 | exact P1 | exact P2 | exact P3 | exact P4 | exact P5 | exact P6 | exact P7) ((Reads.blk rfl).src (.head _)) rfl rfl (fun _ h => by cases h) (by omega) (by omega) (by decide)) rfl rfl ?_
    rintro _ _ ⟨ta2, tc2, rfl, rfl⟩
    repeat' (first | refine Wka ?_ | intro _ | apply And.intro)
    refine At_round (i + 1, ta2, tc2) (by show rts.length - (i + 1) < rts.length - i; omega) (by show i + 1 ≤ rts.length; omega) Sgt ?_
    intro H hl
    dsimp only
    rw [hnx]
    exact hl.pick (is := [0, 3, 1, 1, 1, 1, 1]) rfl
  obtain rfl : i = rts.length := by omega
  rw [List.take_length]
  repeat' (first | refine Wka ?_ | intro _ | apply And.intro)
  refine JO_l (OL_call [2, 2, 1] rfl rfl rfl (Slide14_spec size h hc (hRM.right h hc hr) hRs) rfl) rfl rfl ?_
  rintro _ _ ⟨_, ⟨os', a', cap', hc', rfl, rfl⟩, rfl⟩
  repeat' (first | refine Wka ?_ | intro _ | apply And.intro)
  exact At_ret rfl rfl (.agg rfl rfl rfl Mmt (by rfl) (.tmp rfl .nil)) rfl (is := [1, 1, 4, 3, 1, 1, 1]) rfl ⟨ms, b, os', a', cap', la, lc, hM, hRM, hc', rfl, rfl⟩
end Go.Proofs.YtfmkjbmogfhpbaaGreatDoor
namespace Go.Proofs.YtfmkjbmogfhpbaaGreatDoor.Ph
open Go.Sep Mk
def PIn (E : EV) (stn : Nat) (c : CS) : Prop := COk E stn c ∧ match c with
  | .mk _ => True
  | .sl S ms r _ _ => ZOv E S ms r ∨ ZPhi E S ms r < Cn E
theorem zn_phi {T w nR : Nat} {ws : List Int} {os : List RO} {ms : List Nat} {s s' : RSt} {j m : Nat} (hn : RNx T w nR ws os ms s s' j) (h : ROv T nR os ms s ∨ RPhi T w nR ws os ms s < m) : ROv T nR os ms s' ∨ RPhi T w nR ws os ms s' < m := by
  rcases hn with ⟨ho, rfl⟩ | ⟨hno, _, hlt | ⟨e1, e2, e3, e4, hk⟩⟩
  · exact .inl ho
  · have := h.resolve_left hno
    exact .inr (by omega)
  · have := h.resolve_left hno
    refine .inr ?_
    show PhiI T w nR ws os ms s'.xs s'.C s'.D < m
    rw [e1, e3, e4]
    exact this
theorem PIn.new {E : EV} (h : KOk E (ms0 E.n E.W E.rm E.rS)) : PIn E 0 (.mk (ms0 E.n E.W E.rm E.rS)) := ⟨⟨h, Nat.le_refl _⟩, trivial⟩
theorem PIn.step {E : EV} {stn st' w : Nat} {c c' : CS} {e : Int} (h : PIn E stn c) (hS : StepC E c c' w e) (hc' : COk E st' c') : PIn E st' c' := by
  refine ⟨hc', ?_⟩
  rcases hS with ⟨s, s', rfl, _, rfl, _⟩ | ⟨S, ms, r, r', tv, sv, hTn, rfl, hnx, _⟩
  · trivial
  · refine zn_phi hnx ?_
    cases c with
    | mk s => exact .inr (Nat.lt_of_le_of_lt (Nat.le_add_right _ 2) hTn.2.1)
    | sl S0 ms0 r0 tv0 sv0 =>
      obtain ⟨rfl, rfl, rfl, rfl, rfl⟩ := hTn
      exact h.2
def M0 (E : EV) : Nat := 2000 * (200 * E.T + 112) + (2000 + Cn E)
theorem m0_a {p q c : Nat} (h : p ≤ q) : p * 2000 + 1999 + 1 + c ≤ 2000 * q + (2000 + c) := by omega
theorem m0_b {T n c : Nat} (h : T ≤ n) (hn : n ≤ 400) (hc : c ≤ 10 * 410 * 410 + 2) : 8 * (2000 * (200 * T + 112) + (2000 + c)) ≤ 8000000000 := by omega
theorem m0_c {n : Nat} (hn : n ≤ 400) : 10 * (n + 10) * (n + 10) + 2 ≤ 10 * 410 * 410 + 2 := Nat.add_le_add_right (Nat.mul_le_mul (Nat.mul_le_mul_left 10 (by omega)) (by omega)) 2
theorem PIn.meas {E : EV} {stn : Nat} {c : CS} (hE : EOk E) (h : PIn E stn c) : CMeas E (M0 E) c := by
  have hW1 := hE.W1
  have hW2 := hE.W2
  cases c with
  | mk s =>
    have hM : M0 E = 2000 * (200 * E.T + 112) + (2000 + Cn E) := rfl
    refine ⟨hM ▸ Nat.le_trans (Nat.le_add_left _ _) (Nat.le_add_left _ _), ?_⟩
    by_cases ho : Over s
    · exact .inl ho
    · have hc := h.1.1.cap
      refine .inr ⟨_, meas_of h.1.1.inv hW1 hW2 ho, ?_⟩
      exact m0_a hc
  | sl S ms r tv sv =>
    refine h.2.imp id fun h2 => Nat.lt_of_lt_of_le h2 ?_
    exact Nat.le_trans (Nat.le_add_left _ _) (Nat.le_add_left _ _)
theorem M0_le {E : EV} (h : E.T ≤ E.n) (hn : E.n ≤ 400) : 8 * M0 E ≤ 8000000000 :=
  m0_b h hn (m0_c hn)
end Go.Proofs.YtfmkjbmogfhpbaaGreatDoor.Ph
namespace Go.Proofs.YtfmkjbmogfhpbaaGreatDoor
open Go.Sep Go.Shelf
theorem Does.ofCalls {P : Program} {f : FuncId} {args : List Value} {v : Value} (he : Enters P f) (h : ∀ w, Calls P f args.toArray w fun e w' => e = .returned v ∧ w' = w) : Does P f args [] (fun u l => u = v ∧ l = []) :=
  ⟨he, fun W fr w hs => (h w).mono fun e w' ⟨h1, h2⟩ => ⟨v, [], h1, ⟨rfl, rfl⟩, h2 ▸ hs⟩⟩
theorem OV_gtrU {C : Ctx} {g : Regs} {t t' : TypeId} {x y : Operand} {m n : Int} (hx : ev g x = some (.int .u64 m)) (hy : ev g y = some (.int .u64 n)) : OpV C g (.binOp .gtr t x y t') (.bool (decide (n < m))) := by
  refine ⟨(by intro c h; cases h), fun d ty pos af gd a w hf => ?_⟩
  have hb : (binOp .gtr t (.int .u64 m) (.int .u64 n)).run C.P w = .ok (.bool (decide (n < m))) w := by simp [binOp, Op.intCmp, Pure.pure, Sem.run]
  simp only [execOp, hf.ev hx, hf.ev hy]
  rw [Sem.run_bind, run_guarded hb]
  rfl
theorem rep_put {k n m : Nat} (h : n + m ≤ k) : putL (intsV (List.replicate n (-1) ++ List.replicate (k - n) 0)) n (intsV (List.replicate m (-1))) = some (intsV (List.replicate (n + m) (-1) ++ List.replicate (k - (n + m)) 0)) := by
  rw [putL_split (by simp; omega)]
  congr 1
  rw [← List.map_take, ← List.map_drop, ← List.map_append, ← List.map_append]
  congr 1
  rw [List.take_left' (by simp), List.length_map, List.length_replicate, List.drop_append, List.drop_of_length_le (by simp), List.nil_append, List.drop_replicate, List.length_replicate, ← List.replicate_append_replicate]
  congr 2
  omega
theorem rep_take {k n m : Nat} (h : m ≤ n) : (intsV (List.replicate n (-1) ++ List.replicate (k - n) 0)).take m = intsV (List.replicate m (-1)) := by
  rw [← List.map_take, List.take_append_of_le_length (by simp; omega), List.take_replicate, Nat.min_eq_left h]
def ro : Ren := ⟨fun n => if n = 264 then 134 else 0, fun t => if t = 46 then 224 else 221, fun g => g⟩
abbrev iu64 : TyI := ⟨TD.int .u64, 1, 8, [.int .u64 0]⟩
theorem look_view {t : Nat} {i : TyI} (h : Go.Sep.look ti t = some i) : tyView Tryz.prog t = some i := tiok.look h
theorem u64zero {t : Nat} (w : World) (hi : tyView Tryz.prog t = some iu64) (h2 : (Tryz.prog.info? t).bind (·.zero) = some (.int .u64 0)) : (zeroValue t).run Tryz.prog w = .ok (.int .u64 0) w := by
  obtain ⟨f, d, zv, hf, hd, hz, _⟩ := tyView_parts hi
  rw [hf] at h2
  have h3 : f.zero = some (.int .u64 0) := h2
  simp [zeroValue, Sem.run_bind, run_typeInfo w hf, Result.andThen, h3, Pure.pure, Sem.run]
set_option maxRecDepth 100000 in
theorem lays264 : Lays.n264 Tryz.prog ro where
  mixed := by kernel_rfl
  f264 := by kernel_rfl
  t46 := by kernel_rfl
  a46 := fun w => run_isAgg (t := 224) w (i := iu64) (look_view (by rfl))
  z46 := fun w => Go.Sep.run_sizeOf (t := 224) w (i := iu64) (look_view (by rfl))
  v46 := fun w => u64zero (t := 224) w (look_view (by rfl)) (by kernel_rfl)
  t53 := by kernel_rfl
  a53 := fun w => run_isAgg (t := 221) w (i := iu64) (look_view (by rfl))
  z53 := fun w => Go.Sep.run_sizeOf (t := 221) w (i := iu64) (look_view (by rfl))
  v53 := fun w => u64zero (t := 221) w (look_view (by rfl)) (by kernel_rfl)
theorem Mul64_spec (k : Nat) (hk : k ≤ 64) : Does Tryz.prog 134 [.int .u64 1, .int .u64 k] [] (fun v l => v = .tuple #[.int .u64 0, .int .u64 k] ∧ l = []) := by
  refine Does.ofCalls (enters_of (fn := Tryz.f134) Tryz.func134 (by kernel_rfl) rfl) fun w => ?_
  have h := Any.bits_Mul64 lays264 1 k (by decide) (by omega) w
  refine h.mono fun e w' ⟨h1, h2⟩ => ⟨?_, h2⟩
  rw [h1, Nat.one_mul, Nat.div_eq_of_lt (by omega), Nat.mod_eq_of_lt (by omega)]
  rfl
theorem Mul_spec (k : Nat) (hk : k ≤ 64) : Does Tryz.prog 117 [.int .u64 1, .int .u64 k] [] (fun v l => v = .tuple #[.int .u64 0, .int .u64 k] ∧ l = []) := by
  refine Does.of tiok Tryz.func117 (by kernel_rfl) rfl Tryz.ntmps117 rfl ?_
  intro W fr
  repeat' (first | refine Wka ?_ | intro _ | apply And.intro)
  refine JO_l (OL_call [] rfl rfl rfl (Mul64_spec k hk) rfl) rfl rfl ?_; rintro _ _ ⟨_, ⟨rfl, rfl⟩, rfl⟩
  repeat' (first | refine Wka ?_ | intro _ | apply And.intro)
  exact At_ret rfl rfl (.tmp rfl (.tmp rfl .nil)) rfl (is := []) rfl ⟨rfl, rfl⟩
set_option maxHeartbeats 4000000 in
theorem Repeat_spec (bx k : Nat) (h1 : 1 ≤ k) (h2 : k ≤ 64) : Does Tryz.prog 87 [.slice (some ⟨bx, 0, none⟩) 1 1, .int .i64 k] [blk bx [.int .i64 (-1)] 3]
    (fun v l => ∃ b, v = .slice (some ⟨b, 0, none⟩) k k ∧ l = [blk b (intsV (List.replicate k (-1))) 3]) := by
  refine Does.of tiok Tryz.func87 (by kernel_rfl) rfl Tryz.ntmps87 rfl ?_
  intro W fr
  repeat' (first | refine Wka ?_ | intro _ | apply And.intro)
  rw [show IntKind.u64.wrap (k : Int) = k from Mul64.wrapN k (by omega), show IntKind.u64.wrap ((1 : Nat) : Int) = 1 from Mul64.wrapN 1 (by omega)]
  refine JO_l (OL_call [] rfl rfl rfl (Mul_spec k h2) rfl) rfl rfl ?_; rintro _ _ ⟨_, ⟨rfl, rfl⟩, rfl⟩
  repeat' (first | refine Wka ?_ | intro _ | apply And.intro)
  refine JO_val (OV_gtrU rfl rfl) rfl rfl ?_
  repeat' (first | refine Wka ?_ | intro _ | apply And.intro)
  refine JO_val (OV_gtrU rfl rfl) rfl rfl ?_
  repeat' (first | refine Wka ?_ | intro _ | apply And.intro)
  refine JO_l (OL_makeN rfl rfl rfl rfl (by omega) (by omega)) rfl rfl ?_
  rintro _ _ ⟨b, rfl, rfl⟩
  repeat' (first | refine Wka ?_ | intro _ | apply And.intro)
  rw [show List.replicate k (Value.int .i64 0) = intsV (List.replicate 0 (-1) ++ List.replicate (k - 0) 0) by simp [intsV]]
  refine JO_l (OL_copy (news := [.int .i64 (-1)]) rfl rfl rfl rfl P0 rfl (fun w hs => ?_) rfl (rep_put (m := 1) (by omega))) rfl rfl ?_
  · rw [Nat.min_eq_left h1]
    exact ((Reads.blk (T := 3) (sz := 1) (m := 1) (cap := 1) (b := bx) (cs := [.int .i64 (-1)]) rfl).src (.tail _ (.head _))).2.2 w hs
  rintro _ _ ⟨rfl, rfl⟩
  rw [show min ((1 : Nat) : Int) (k : Int) = ((1 : Nat) : Int) by omega]
  repeat' (first | refine Wka ?_ | intro _ | apply And.intro)
  refine J_loop (α := Nat) (fun n => 1 ≤ n ∧ n ≤ k) (fun n => [(4, .slice none 0 0), (7, .slice (some ⟨b, 0, none⟩) k k), (8, .int .i64 n)])
    (fun n => [blk b (intsV (List.replicate n (-1) ++ List.replicate (k - n) 0)) 3]) (fun n => k - n) 1 ⟨Nat.le_refl _, h1⟩ Sgt (fun H hl => hl.pick (is := [0]) rfl) ?_
  rintro n ⟨hn1, hn2⟩
  repeat' (first | refine Wka ?_ | intro _ | apply And.intro)
  · rename_i hlt
    have hm1 : min n (k - n) ≤ n := Nat.min_le_left _ _
    have hm2 : min n (k - n) ≤ k - n := Nat.min_le_right _ _
    have hm3 : 1 ≤ min n (k - n) := by omega
    refine J_draw [0, 0, 0, 0, 0, 0, 0, 2, 0, 0] (List.range 10) (by kernel_rfl) (by kernel_rfl) ?_
    repeat' (first | refine Wkd ?_ | intro _ | apply And.intro)
    refine JX_val rfl rfl (OV_slice (m := (n : Int)) (n := (k : Int)) rfl rfl rfl rfl rfl rfl rfl (by omega) (by omega) (by omega) (p' := some ⟨b, 0 + n * 1, none⟩) ?_) rfl rfl ?_
    · rw [if_neg (by omega), Int.toNat_natCast, Option.map_some, addr_add]
    rw [show (k : Int).toNat - (n : Int).toNat = k - n by omega, show k - (n : Int).toNat = k - n by omega]
    repeat' (first | refine Wkd ?_ | intro _ | apply And.intro)
    refine JX_val rfl rfl (OV_slice (m := 0) (n := (n : Int)) rfl rfl rfl rfl rfl rfl rfl (by omega) (by omega) (by omega) (p' := some ⟨b, 0, none⟩) ?_) rfl rfl ?_
    · split
      · rfl
      · exact map_add0 _
    rw [show (n : Int).toNat - (0 : Int).toNat = n by omega]
    rw [show (0 + n * 1) = n by omega]
    refine JX_l rfl rfl (OL_copy (news := intsV (List.replicate (min n (k - n)) (-1))) rfl rfl rfl rfl P0 rfl (fun w hs => ?_) (plainL_ints _) (rep_put (m := min n (k - n)) (by omega))) rfl rfl ?_
    · have hr : Reads (blk b (intsV (List.replicate n (-1) ++ List.replicate (k - n) 0)) 3) 1 k (some ⟨b, 0, none⟩) k (intsV (List.replicate n (-1) ++ List.replicate (k - n) 0)) := Reads.blk (by simp; omega)
      have h3 := hr.sub1 0 (min n (k - n)) k (by omega)
      rw [List.drop_zero, rep_take hm1] at h3
      exact (h3.src (.head _)).2.2 w hs
    rintro _ _ ⟨rfl, rfl⟩
    repeat' (first | refine Wkd ?_ | intro _ | apply And.intro)
    repeat' (first | refine Wka ?_ | intro _ | apply And.intro)
    rw [show ((n : Int) + min (n : Int) ((k - n : Nat) : Int)) = ((n + min n (k - n) : Nat) : Int) by omega]
    exact At_round (n + min n (k - n)) (by show k - (n + min n (k - n)) < k - n; omega) ⟨by omega, by omega⟩ Sgt (fun H hl => hl)
  · have hnk : n = k := by omega
    subst hnk
    refine At_ret rfl rfl (.tmp rfl .nil) rfl (is := [0]) rfl ⟨b, rfl, ?_⟩
    simp
open Go.Sep
abbrev allocA (pa p pb k : Nat) (size : Int) : HP := blk pa [ptr p 0, sl pb k, .int .i64 size] 187
def bufSize (b : Int) : Int := if 4096 < (if b < 8 then 8 else b) then 4096 else if b < 8 then 8 else b
theorem New_ok (p k : Nat) (b : Int) (h1 : 1 ≤ k) (h2 : k ≤ 64) : Does Tryz.prog 45 [ptr p 0, .int .i64 k, .int .i64 b] []
    (fun v l => ∃ pa pb, v = .tuple #[ptr pa 0, .int .i64 0] ∧ l = [allocA pa p pb k (bufSize b), blk pb (intsV (List.replicate k (-1))) 3]) := by
  refine Does.of tiok Tryz.func45 (by kernel_rfl) rfl Tryz.ntmps45 rfl ?_
  intro W fr
  repeat' (first | refine Wka ?_ | intro _ | apply And.intro)
  refine JO_l (OL_buildSlice (cs := [.int .i64 (-1)]) rfl rfl rfl rfl rfl rfl rfl rfl) rfl rfl ?_
  rintro _ _ ⟨bx, rfl, rfl⟩
  repeat' (first | refine Wka ?_ | intro _ | apply And.intro)
  refine JO_l (OL_call [0] rfl rfl rfl (Repeat_spec bx k h1 h2) rfl) rfl rfl ?_; rintro _ _ ⟨_, ⟨pb, rfl, rfl⟩, rfl⟩
  repeat' (first | refine Wka ?_ | intro _ | apply And.intro)
  rename_i pa
  exact At_ret rfl rfl (.tmp rfl (.tmp rfl .nil)) rfl (is := [0, 0]) rfl ⟨pa, pb, rfl, rfl⟩
section ops
variable {pa pb p bw bs n T : Nat} {size : Int} {ws bu : List Int} {st : List Bool}
end ops
end Go.Proofs.YtfmkjbmogfhpbaaGreatDoor
namespace Go.Sep
open Go.RowKit
open Go.ChangeMaps Go.MapKept Go.WideShapes
open Go.WideElems (Fit rd rg pl rd_key rd_val rg_of other_key)
open Go.Maps (Keyed)
abbrev rI (P : Program) (e : Nat) : Value → Option (DataW Unit × List MemPlace) := plainElem (H := Unit) P e
abbrev datI (P : Program) (k e : Nat) (es : Array MapEntry) : DataW Unit := .map ((es.toList.map (rg P k (rI P e))).foldr DataW.insert [])
def wfI (z : Int) : Prop := (Lit.int .i64 z).wf = true
def mapI (P : Program) (k e b n : Nat) (f : Int → Int) : HP := fun h => ∃ (es : Array MapEntry) (clock : Nat), h b = some (.map es clock) ∧ Fit P k (rI P e) es clock ∧ es.size ≤ n ∧
  ∀ z, wfI z → (datI P k e es).atKey (.int .i64 z) (.lit (.int .i64 0)) = .lit (.int .i64 (f z))
theorem Stars.mapI {P : Program} {k e b n : Nat} {f : Int → Int} {l : List HP} {H : PH} (h : Stars (Sep.mapI P k e b n f :: l) H) : ∃ (es : Array MapEntry) (clock : Nat), Stars (pt b (.map es clock) :: l) H ∧ Fit P k (rI P e) es clock ∧ es.size ≤ n ∧
    ∀ z, wfI z → (datI P k e es).atKey (.int .i64 z) (.lit (.int .i64 0)) = .lit (.int .i64 (f z)) := by
  obtain ⟨h1, h2, ap, s1, s2, ⟨es, clock, hb, F, hs, hf⟩, hl⟩ := h
  exact ⟨es, clock, ⟨h1, h2, ap, s1, s2, hb, hl⟩, F, hs, hf⟩
section ops
variable {C : Ctx} {g : Regs} {l : List HP} {T k e : Nat}
theorem OL_makeMap (he : C.P.underlying e = some (.int .i64)) : OpL C g l (.makeMap T none) (fun v l' => ∃ b, v = .map (some b) ∧ l' = mapI C.P k e b 0 (fun _ => 0) :: l) :=
  ⟨(by intro c h; cases h), fun dst ty pos af gd a w hf hs K Q kk => by
    simp only [execOp, Option.map_none, Instr.makeMap, newObj, Sem.run_bind, Sem.run, Result.andThen, Pure.pure, Oper.uponIn]
    refine kk _ _ _ ⟨w.heap.size, rfl, rfl⟩ ?_
    have h1 : Sat C.W (pt w.heap.size (.map #[] 0) :: (l ++ C.fr)) (w.alloc (.map #[] 0)) := hs.alloc _
    refine h1.to fun H h => h.weak fun h2 hp => ⟨#[], 0, hp, ⟨by simp, stamped_empty 0, by simp⟩, Nat.le_refl _, fun z _ => rfl⟩⟩
theorem OV_buildA0 {len el n s1 s2 : Nat} {z : List Value} (ht : look C.ti T = some ⟨.array len el, s1, s2, z⟩) (hsz : sizeAt C.ti el = some n) : OpV C g (.build T #[]) (.agg z.toArray) := by
  refine ⟨(by intro c h; cases h), fun d ty pos af gd a w hf => ?_⟩
  have hu := run_underlying (und_array (C.ok.look ht) rfl) w
  obtain ⟨zv, hz, ez⟩ := run_zero w (C.ok.look ht)
  have e : zv.cells = z.toArray := by
    have ez' : zv.cells.toList = z := ez
    rw [← ez']
  have hs : (sizeOf el).run C.P w = .ok n w := sizeAt_run hsz w
  have hrun : (Instr.build T #[]).run C.P w = .ok (.agg z.toArray) w := by
    simp only [Instr.build, Sem.run_bind, hz, Result.andThen, hu, hs, Instr.fill, e]
    rfl
  simp only [execOp, List.map_toArray, List.map_nil]
  rw [Sem.run_bind, hrun]
  rfl
def rngI (P : Program) (k e b r n : Nat) (f : Int → Int) (cnt : Nat) : HP := fun h => ∃ (es : Array MapEntry) (clock since : Nat) (seen : Array Nat) (c0 : Nat), h b = some (.map es clock) ∧ Fit P k (rI P e) es clock ∧ es.size ≤ n ∧
  (∀ z, wfI z → (datI P k e es).atKey (.int .i64 z) (.lit (.int .i64 0)) = .lit (.int .i64 (f z))) ∧ h r = some (.mapIter (some b) since seen c0) ∧ (∀ x ∈ es.toList, x.born < since) ∧ (leftOf es seen).size = cnt ∧ since ≤ c0 ∧ since ≤ clock
theorem rngI.map {P : Program} {b r n cnt : Nat} {f : Int → Int} {h : PH} (H : rngI P k e b r n f cnt h) : mapI P k e b n f h := by
  obtain ⟨es, clock, since, seen, c0, h1, h2, h3, h4, _⟩ := H
  exact ⟨es, clock, h1, h2, h3, h4⟩
theorem Stars.two {a b : Nat} {x y : Obj} {l : List HP} {H : PH} (h : Stars (pt a x :: pt b y :: l) H) {p : HP} (k : ∀ h, h a = some x → h b = some y → p h) : Stars (p :: l) H :=
  (Stars.shut (ps := [pt a x, pt b y]) h).weak fun h1 hp => k h1 (Stars.at hp (.head _)) (Stars.at hp (.tail _ (.head _)))
end ops
end Go.Sep
set_option maxRecDepth 8000
namespace Go.Sep
section ops
variable {C : Ctx} {g : Regs}
theorem OV_sliceA0 {T e n sz s1 s2 b o : Nat} {k : IntKind} {z : List Value} {x lo : Operand} (ht : look C.ti T = some ⟨.array n e, s1, s2, z⟩) (hsz : sizeAt C.ti e = some sz)
    (hx : ev g x = some (ptr b o)) (hlo : ev g lo = some (.int k 0)) (hn : 0 < n) :
    OpV C g (.slice T x (some lo) none none) (.slice (some ⟨b, o, none⟩) n n) := by
  refine ⟨(by intro c h; cases h), fun d ty pos af gd a w hf => ?_⟩
  have hz : (sizeOf e).run C.P w = .ok sz w := sizeAt_run hsz w
  have hu := run_underlying (und_array (C.ok.look ht) rfl) w
  have hl := run_sliceBound (P := C.P) (k := k) (n := 0) (y := n) (code := .sliceB) w (by omega) (by omega)
  have hb : (Instr.sliceBounds false n n (some (.int k 0)) none none).run C.P w = .ok (0, n, n) w := by
    unfold Instr.sliceBounds
    simp only [Sem.run_bind, Pure.pure, Sem.run, Result.andThen, Option.isSome_none, Bool.false_eq_true, if_false]
    rw [hl]
    rfl
  have hne : ¬ n = 0 := by omega
  have hr : (Instr.sliceAt T (ptr b o) (some (.int k 0)) none none).run C.P w = .ok (.slice (some ⟨b, o, none⟩) n n) w := by
    simp only [Instr.sliceAt, Sem.run_bind, hu, Result.andThen, ptr, Instr.sureAddr, Sem.run, Pure.pure, hb, hz, if_neg hne, Nat.zero_mul, Nat.sub_zero]
    rfl
  simp only [execOp, hf.ev hx, Option.map_some, hf.ev hlo, Option.map_none]
  rw [Sem.run_bind, hr]
  rfl
end ops
end Go.Sep
namespace Go.Proofs.YtfmkjbmogfhpbaaGreatDoor
open Go.Sep
theorem Good1_zero : Does Tryz.prog 91 [.int .i64 0] [] (fun v l => v = .bool false ∧ l = []) := by
  refine Does.of tiok Tryz.func91 (by kernel_rfl) rfl Tryz.ntmps91 rfl ?_
  intro W fr
  repeat' (first | refine Wka ?_ | intro _ | apply And.intro)
  exact At_ret rfl rfl (.tmp rfl .nil) rfl (is := []) rfl ⟨rfl, rfl⟩
abbrev good1V : Value := .func (.func 91) #[] #[]
theorem IndexFunc_zeros {R : HP} {b o m : Nat} (hR : Reads R 1 m (some ⟨b, o, none⟩) m (List.replicate m (.int .i64 0))) (hl : m ≤ 100) :
    Does Tryz.prog 101 [.slice (some ⟨b, o, none⟩) m m, good1V] [R] (fun v l => v = .int .i64 (-1) ∧ l = [R]) := by
  refine Does.of tiok Tryz.func101 (by kernel_rfl) rfl Tryz.ntmps101 rfl ?_
  intro W fr
  repeat' (first | refine Wka ?_ | intro _ | apply And.intro)
  refine J_loop (α := Nat) (fun q => q ≤ m)
    (fun q => [(0, .slice (some ⟨b, o, none⟩) m m), (1, good1V), (7, .int .i64 m), (8, .int .i64 q)])
    (fun q => [R]) (fun q => m - q) 0 (Nat.zero_le _) Sgt (fun H hl => hl) ?_
  intro q hq
  repeat' (first | refine Wka ?_ | intro _ | apply And.intro)
  · rename_i hlt
    refine JO_val (OV_idx (off := o + q) rfl rfl rfl rfl (by omega) (by omega) (by omega)) rfl rfl ?_
    refine JO_q (OQ_read (i := q) (v := .int .i64 0) hR (by simp) rfl rfl (by omega) (by rw [List.getElem?_replicate, if_pos (by omega)])) rfl rfl ?_
    refine JO_l (OL_call [] rfl rfl rfl Good1_zero rfl) rfl rfl ?_
    rintro _ _ ⟨_, ⟨rfl, rfl⟩, rfl⟩
    repeat' (first | refine Wka ?_ | intro _ | apply And.intro)
    exact At_round (q + 1) (by show m - (q + 1) < m - q; omega) (by show q + 1 ≤ m; omega) Sgt (fun H hl => hl)
  · exact At_ret rfl rfl (.tmp rfl .nil) rfl (is := [0]) rfl ⟨rfl, rfl⟩
theorem ContainsFunc_zeros {R : HP} {b o m : Nat} (hR : Reads R 1 m (some ⟨b, o, none⟩) m (List.replicate m (.int .i64 0))) (hl : m ≤ 100) :
    Does Tryz.prog 65 [.slice (some ⟨b, o, none⟩) m m, good1V] [R] (fun v l => v = .bool false ∧ l = [R]) := by
  refine Does.of tiok Tryz.func65 (by kernel_rfl) rfl Tryz.ntmps65 rfl ?_
  intro W fr
  repeat' (first | refine Wka ?_ | intro _ | apply And.intro)
  refine JO_l (OL_call [0] rfl rfl rfl (IndexFunc_zeros hR hl) rfl) rfl rfl ?_
  rintro _ _ ⟨_, ⟨rfl, rfl⟩, rfl⟩
  repeat' (first | refine Wka ?_ | intro _ | apply And.intro)
  exact At_ret rfl rfl (.tmp rfl .nil) rfl (is := [0]) rfl ⟨rfl, rfl⟩
abbrev manyV : List Value := [.int .i64 0, .int .i64 4, .int .i64 0, .int .i64 1, .int .i64 0, .int .i64 2, .int .i64 3, .int .i64 3, .int .i64 2, .int .i64 0, .int .i64 2, .int .i64 0, .int .i64 0]
theorem Many_two {R : HP} (hR : Reads R 1 13 (some ⟨0, 0, none⟩) 13 manyV) : Does Tryz.prog 90 [.int .i64 2] [R] (fun v l => v = .int .i64 0 ∧ l = [R]) := by
  refine Does.of tiok Tryz.func90 (by kernel_rfl) rfl Tryz.ntmps90 rfl ?_
  intro W fr
  repeat' (first | refine Wka ?_ | intro _ | apply And.intro)
  refine JO_val (OV_idxA (off := 0 + 2) rfl rfl rfl rfl (by omega) (by decide) (by rfl)) rfl rfl ?_
  refine JO_q (OQ_read (i := 2) (v := .int .i64 0) hR (by simp) rfl rfl (by omega) (by rfl)) rfl rfl ?_
  repeat' (first | refine Wka ?_ | intro _ | apply And.intro)
  exact At_ret rfl rfl (.tmp rfl .nil) rfl (is := [0]) rfl ⟨rfl, rfl⟩
theorem Good_two {R : HP} (hR : Reads R 1 13 (some ⟨0, 0, none⟩) 13 manyV) : Does Tryz.prog 47 [.agg #[.int .i64 2, .int .i64 0, .int .i64 0, .int .i64 0, .int .i64 0]] [R] (fun v l => v = .bool true ∧ l = [R]) := by
  refine Does.of tiok Tryz.func47 (by kernel_rfl) rfl Tryz.ntmps47 rfl ?_
  intro W fr
  repeat' (first | refine Wka ?_ | intro _ | apply And.intro)
  refine JO_l (OL_call [1] rfl rfl rfl (Many_two hR) rfl) rfl rfl ?_
  rintro _ _ ⟨_, ⟨rfl, rfl⟩, rfl⟩
  repeat' (first | refine Wka ?_ | intro _ | apply And.intro)
  refine JO_val (OV_sliceA0 (n := 4) rfl rfl rfl rfl (by decide)) rfl rfl ?_
  repeat' (first | refine Wka ?_ | intro _ | apply And.intro)
  rename_i bx
  have hZ : Reads (blk bx [.int .i64 2, .int .i64 0, .int .i64 0, .int .i64 0, .int .i64 0] 74) 1 4 (some ⟨bx, 0 + 1, none⟩) 4 (List.replicate 4 (.int .i64 0)) := (Reads.blk (sz := 1) (m := 5) (cap := 5) rfl).sub1 1 4 4 (by omega)
  refine JO_l (OL_call [1] rfl rfl rfl (ContainsFunc_zeros hZ (by omega)) rfl) rfl rfl ?_
  rintro _ _ ⟨_, ⟨rfl, rfl⟩, rfl⟩
  repeat' (first | refine Wka ?_ | intro _ | apply And.intro)
  exact At_ret rfl rfl (.tmp rfl .nil) rfl (is := [1]) rfl ⟨rfl, rfl⟩
theorem Numbers18_spec : Does Tryz.prog 19 [.int .u8 20, .int .u8 0, .int .u8 0, .agg #[.int .u8 0, .int .u8 0, .int .u8 0, .int .u8 0, .int .u8 0]] []
    (fun v l => v = .agg #[.int .i64 21, .int .i64 1, .int .i64 8, .int .i64 1, .int .i64 2, .int .i64 1, .int .i64 1, .int .i64 2] ∧ l = []) := by
  refine Does.of tiok Tryz.func19 (by kernel_rfl) rfl Tryz.ntmps19 rfl ?_
  intro W fr
  have hN : Does Tryz.prog 9 [.agg #[.int .u8 0, .int .u8 0, .int .u8 0, .int .u8 0, .int .u8 0]] [] _ := Numbers15_spec (x0 := 0) (x1 := 0) (x2 := 0) (x3 := 0) (x4 := 0) (by omega) (by omega) (by omega) (by omega) (by omega)
  repeat' (first | refine Wka ?_ | intro _ | apply And.intro)
  refine JO_l (OL_call [] rfl rfl rfl hN rfl) rfl rfl ?_
  rintro _ _ ⟨_, ⟨rfl, rfl⟩, rfl⟩
  repeat' (first | refine Wka ?_ | intro _ | apply And.intro)
  exact At_ret rfl rfl (.agg rfl rfl rfl Mmt (by rfl) .nil) rfl (is := []) rfl ⟨rfl, rfl⟩
abbrev entry2 : Value := .agg #[.int .i64 2, .int .i64 0, .int .i64 0, .int .i64 0, .int .i64 0]
abbrev sysB (ps p pr pa : Nat) : HP := blk ps [.int .i64 21, .int .i64 1, .int .i64 8, .int .i64 1, .int .i64 2, .int .i64 1, .int .i64 1, .int .i64 2, ptr p 0, ptr pr 0, ptr pa 0, .pointer none, .bool false, .int .i64 0] 117
theorem Collecting_no {ps p pr pa : Nat} : Does Tryz.prog 49 [ptr ps 0] [sysB ps p pr pa] (fun v l => v = .bool false ∧ l = [sysB ps p pr pa]) := by
  refine Does.of tiok Tryz.func49 (by kernel_rfl) rfl Tryz.ntmps49 rfl ?_
  intro W fr
  repeat' (first | refine Wka ?_ | intro _ | apply And.intro)
  exact At_ret rfl rfl (.tmp rfl .nil) rfl (is := [0]) rfl ⟨rfl, rfl⟩
theorem change_nil {ps p pr pa rc rw_ : Nat} : Does Tryz.prog 52 [ptr ps 0, entry2] (sysB ps p pr pa :: Rt.rootsZ pr rc rw_ 0 none 0 [] 1) (fun v l => v = .int .i64 0 ∧ l = [sysB ps p pr pa]) := by
  refine Does.of tiok Tryz.func52 (by kernel_rfl) rfl Tryz.ntmps52 rfl ?_
  intro W fr
  repeat' (first | refine Wka ?_ | intro _ | apply And.intro)
  refine JO_l (OL_call [3, 3, 3] rfl rfl rfl (Rt.Push_ok 0 (Int.le_refl 0) (by decide)) rfl) rfl rfl ?_
  rintro _ _ ⟨_, ⟨ar, cr, rfl, rfl⟩, rfl⟩
  repeat' (first | refine Wka ?_ | intro _ | apply And.intro)
  exact At_ret rfl rfl (.tmp rfl .nil) rfl (is := [5]) rfl ⟨rfl, rfl⟩
theorem Do_nil {R : HP} {ps p pr pa rc rw_ : Nat} (hR : Reads R 1 13 (some ⟨0, 0, none⟩) 13 manyV) : Does Tryz.prog 21 [ptr ps 0, entry2] (R :: sysB ps p pr pa :: Rt.rootsZ pr rc rw_ 0 none 0 [] 1) (fun v l => v = .agg #[.int .i64 0, .int .i64 0] ∧ l = [R]) := by
  refine Does.of tiok Tryz.func21 (by kernel_rfl) rfl Tryz.ntmps21 rfl ?_
  intro W fr
  repeat' (first | refine Wka ?_ | intro _ | apply And.intro)
  refine JO_l (OL_call [2] rfl rfl rfl (Good_two hR) rfl) rfl rfl ?_
  rintro _ _ ⟨_, ⟨rfl, rfl⟩, rfl⟩
  repeat' (first | refine Wka ?_ | intro _ | apply And.intro)
  refine JO_l (OL_call [4] rfl rfl rfl Collecting_no rfl) rfl rfl ?_
  rintro _ _ ⟨_, ⟨rfl, rfl⟩, rfl⟩
  repeat' (first | refine Wka ?_ | intro _ | apply And.intro)
  refine JO_l (OL_call [0, 4, 4, 4] rfl rfl rfl change_nil rfl) rfl rfl ?_
  rintro _ _ ⟨_, ⟨rfl, rfl⟩, rfl⟩
  repeat' (first | refine Wka ?_ | intro _ | apply And.intro)
  exact At_ret rfl rfl (.agg rfl rfl rfl Mmt (by rfl) .nil) rfl (is := [3]) rfl ⟨rfl, rfl⟩
end Go.Proofs.YtfmkjbmogfhpbaaGreatDoor
set_option maxRecDepth 8000
namespace Go.Proofs.YtfmkjbmogfhpbaaGreatDoor
open Go.Sep Mk Ph
theorem graphOf_none {p c : Nat} {a : Option Addr} : Does Tryz.prog 46 [ptr p 0, .slice a 0 c] [] (fun v l => v = .tuple #[.agg #[.slice none 0 0, .slice none 0 0], .int .i64 0] ∧ l = []) := by
  refine Does.of tiok Tryz.func46 (by kernel_rfl) rfl Tryz.ntmps46 rfl ?_
  intro W fr
  repeat' (first | refine Wka ?_ | intro _ | apply And.intro)
  refine JO_l (OL_makeMap (k := 3) (e := 3) Tryz.underlying3) rfl rfl ?_
  rintro _ _ ⟨bm, rfl, rfl⟩
  repeat' (first | refine Wka ?_ | intro _ | apply And.intro)
  rename_i b4 b6 b7
  refine J_loop (α := Unit) (fun _ => True) (fun _ => [(4, ptr b4 0), (6, ptr b6 0), (7, ptr b7 0), (19, .int .i64 0), (20, .int .i64 0)])
    (fun _ => [blk b7 [.slice none 0 0, .slice none 0 0] 66, blk b6 [ptr p 0, .slice none 0 0, .map (some bm)] 191, blk b4 [.slice none 0 0, .slice none 0 0] 66]) (fun _ => 0) () trivial Sgt (fun H hl => hl.pick (is := [0, 0, 1]) rfl) ?_
  rintro _ _
  repeat' (first | refine Wkb ?_ | intro _ | apply And.intro)
  refine J_block ?_
  refine J_loop (α := Unit) (fun _ => True) (fun _ => [(4, ptr b4 0), (6, ptr b6 0), (7, ptr b7 0)])
    (fun _ => [blk b7 [.slice none 0 0, .slice none 0 0] 66, blk b6 [ptr p 0, .slice none 0 0, .map (some bm)] 191, blk b4 [.slice none 0 0, .slice none 0 0] 66]) (fun _ => 0) () trivial Sgt (fun H hl => hl) ?_
  rintro _ _
  repeat' (first | refine Wkb ?_ | intro _ | apply And.intro)
  refine J_drawk [blk b7 [.slice none 0 0, .slice none 0 0] 66, blk b6 [ptr p 0, .slice none 0 0, .map (some bm)] 191] (fun H hl => (hl.perm (picks_perm (is := [0, 0]) rfl)).left) [0, 5, 0, 0, 0, 0, 5, 0, 0] (List.range 9) (by kernel_rfl) (by kernel_rfl) ?_
  repeat' (first | refine Wke ?_ | intro _ | apply And.intro)
  repeat' (first | refine Wka ?_ | intro _ | apply And.intro)
  exact At_ret rfl rfl (.agg rfl rfl rfl Mmt (by rfl) (.tmp rfl .nil)) rfl (is := []) rfl ⟨rfl, rfl⟩
theorem Form_nil {ps p pr pa rc rw_ : Nat} : Does Tryz.prog 20 [ptr ps 0] (sysB ps p pr pa :: Rt.rootsZ pr rc rw_ 0 none 0 [] 1) (fun v l => v = .tuple #[.agg #[.slice none 0 0, .slice none 0 0], .int .i64 0] ∧ l = sysB ps p pr pa :: Rt.rootsZ pr rc rw_ 0 none 0 [] 1) := by
  refine Does.of tiok Tryz.func20 (by kernel_rfl) rfl Tryz.ntmps20 rfl ?_
  intro W fr
  repeat' (first | refine Wka ?_ | intro _ | apply And.intro)
  refine J_drawk [sysB ps p pr pa] (fun H hl => (hl.perm (picks_perm (is := [1]) rfl)).left) [0, 0, 0, 5, 0, 0, 0, 5, 2, 2, 0, 0, 2, 0] (List.range 14) (by kernel_rfl) (by kernel_rfl) ?_
  repeat' (first | refine Wke ?_ | intro _ | apply And.intro)
  refine JX_lk rfl rfl (OL_call [2, 2, 2] rfl rfl rfl (Rt.rootsAll (by decide)) rfl) rfl rfl ?_ ?_
  · rintro _ _ ⟨_, ⟨a', cap', _, rfl, rfl⟩, rfl⟩ H hl
    exact (hl.perm (picks_perm (is := [5]) rfl)).left
  rintro _ _ ⟨_, ⟨a', cap', _, rfl, rfl⟩, rfl⟩ _
  repeat' (first | refine Wke ?_ | intro _ | apply And.intro)
  refine JX_lk rfl rfl (OL_call [] rfl rfl rfl graphOf_none rfl) rfl rfl ?_ ?_
  · rintro _ _ ⟨_, ⟨rfl, rfl⟩, rfl⟩ H hl
    exact (hl.perm (picks_perm (is := [5]) rfl)).left
  rintro _ _ ⟨_, ⟨rfl, rfl⟩, rfl⟩ _
  repeat' (first | refine Wke ?_ | intro _ | apply And.intro)
  refine JX_l0k rfl rfl (OL_store (i := 4) rfl rfl rfl rfl rfl rfl rfl (by rfl)) rfl ?_ ?_
  · rintro _ _ rfl H hl
    exact (hl.perm (picks_perm (is := [5]) rfl)).left
  rintro _ _ rfl _
  repeat' (first | refine Wke ?_ | intro _ | apply And.intro)
  repeat' (first | refine Wka ?_ | intro _ | apply And.intro)
  exact At_ret rfl rfl (.agg rfl rfl rfl Mmt (by rfl) (.tmp rfl .nil)) rfl (is := [5, 2, 2, 2]) rfl ⟨rfl, rfl⟩
set_option maxHeartbeats 4000000 in
theorem SysNew {R : HP} : Does Tryz.prog 18 [.agg #[.int .i64 21, .int .i64 1, .int .i64 8, .int .i64 1, .int .i64 2, .int .i64 1, .int .i64 1, .int .i64 2]] [R]
    (fun v l => ∃ ps p pr pa rc rw_, v = .tuple #[ptr ps 0, .int .i64 0] ∧ l = R :: sysB ps p pr pa :: Rt.rootsZ pr rc rw_ 0 none 0 [] 1) := by
  have hN : Does Tryz.prog 22 [.int .i64 21] [] _ := heapNew_ok 21 (by decide) (by decide)
  refine Does.of tiok Tryz.func18 (by kernel_rfl) rfl Tryz.ntmps18 rfl ?_
  intro W fr
  repeat' (first | refine Wka ?_ | intro _ | apply And.intro)
  refine JO_l (OL_call [] rfl rfl rfl hN rfl) rfl rfl ?_
  rintro _ _ ⟨_, ⟨p, bw, bs, rfl, rfl⟩, rfl⟩
  clear hN
  have hA : Does Tryz.prog 45 [ptr p 0, .int .i64 1, .int .i64 8] [] _ := New_ok p 1 8 (by decide) (by decide)
  have hC : Does Tryz.prog 10 [ptr p 0, .slice none 0 0, .agg #[.int .i64 1, .int .i64 2, .int .i64 1, .int .i64 1, .int .i64 2]] (heapL p bw bs 21 (List.replicate 21 0) 0 (List.replicate 21 false) ++ [R]) _ :=
    CNew_spec (rts := []) (os := []) (la := none) (lc := 0) (W := 1) (rm := 2) (K := 1) (part := 1) (reg := 2) (HT.new (by decide)) rfl RefsOk.new (by decide) (by decide) (fun z hz => by cases hz) (by decide) Reads.nil (by decide) (by decide) (by decide) (by decide) (by unfold In64; decide)
  repeat' (first | refine Wka ?_ | intro _ | apply And.intro)
  refine JO_l (OL_call [] rfl rfl rfl hA rfl) rfl rfl ?_
  rintro _ _ ⟨_, ⟨pa, pb, rfl, rfl⟩, rfl⟩
  clear hA
  repeat' (first | refine Wka ?_ | intro _ | apply And.intro)
  rename_i b1
  refine JO_l (OL_call [2, 2, 2, 3] rfl rfl rfl hC rfl) rfl rfl ?_
  rintro _ _ ⟨_, ⟨E, V, hPo, hK, _, _, _, _, _, _, _, _, _, _, _, rfl, rfl⟩, rfl⟩
  clear hC
  have hRt : Does Tryz.prog 31 [.int .i64 1] [] _ := Rt.rootsNew 1
  repeat' (first | refine Wka ?_ | intro _ | apply And.intro)
  refine J_drawk [blk b1 [.int .i64 21, .int .i64 1, .int .i64 8, .int .i64 1, .int .i64 2, .int .i64 1, .int .i64 1, .int .i64 2] 62] (fun H hl => (hl.perm (picks_perm (is := [23]) rfl)).left) [5, 0, 0, 0, 5, 2, 0, 0, 2, 0, 0] [0, 1, 2, 3, 4, 6, 5, 7, 8, 9, 10] (by kernel_rfl) (by kernel_rfl) ?_
  repeat' (first | refine Wke ?_ | intro _ | apply And.intro)
  refine JX_lk rfl rfl (OL_call [] rfl rfl rfl hRt rfl) rfl rfl ?_ ?_
  · rintro _ _ ⟨_, ⟨pr, rc, rw_, rfl, rfl⟩, rfl⟩ H hl
    exact (hl.perm (picks_perm (is := [26]) rfl)).left
  rintro _ _ ⟨_, ⟨pr, rc, rw_, rfl, rfl⟩, rfl⟩ _
  repeat' (first | refine Wke ?_ | intro _ | apply And.intro)
  refine JX_lk rfl rfl (OL_box rfl rfl) rfl rfl ?_ ?_
  · rintro _ _ ⟨ps, rfl, rfl⟩ H hl
    exact (hl.perm (picks_perm (is := [27]) rfl)).left
  rintro _ _ ⟨ps, rfl, rfl⟩ _
  repeat' (first | refine Wke ?_ | intro _ | apply And.intro)
  repeat' (first | refine Wka ?_ | intro _ | apply And.intro)
  exact At_ret rfl rfl (.tmp rfl (.tmp rfl .nil)) rfl (is := [4, 0, 0, 0, 0]) rfl ⟨ps, p, pr, pa, rc, rw_, rfl, rfl⟩
theorem awake_top {R : HP} (hR : Reads R 1 13 (some ⟨0, 0, none⟩) 13 manyV) : Does Tryz.prog 5 [] [R] (fun v l => v = .bool true ∧ l = [R]) := by
  refine Does.of tiok Tryz.func5 (by kernel_rfl) rfl Tryz.ntmps5 rfl ?_
  intro W fr
  repeat' (first | refine Wka ?_ | intro _ | apply And.intro)
  refine JO_val (OV_buildA0 rfl rfl) rfl rfl ?_
  refine JO_l (OL_call [] rfl rfl rfl Numbers18_spec rfl) rfl rfl ?_
  rintro _ _ ⟨_, ⟨rfl, rfl⟩, rfl⟩
  repeat' (first | refine Wka ?_ | intro _ | apply And.intro)
  refine JO_l (OL_call [0] rfl rfl rfl (SysNew (R := R)) rfl) rfl rfl ?_
  rintro _ _ ⟨_, ⟨ps, p, pr, pa, rc, rw_, rfl, rfl⟩, rfl⟩
  repeat' (first | refine Wka ?_ | intro _ | apply And.intro)
  refine JO_l (OL_call [1, 1, 1, 1] rfl rfl rfl Form_nil rfl) rfl rfl ?_
  rintro _ _ ⟨_, ⟨rfl, rfl⟩, rfl⟩
  repeat' (first | refine Wka ?_ | intro _ | apply And.intro)
  refine JO_l (OL_call [5, 1, 1, 1, 1] rfl rfl rfl (Do_nil hR) rfl) rfl rfl ?_
  rintro _ _ ⟨_, ⟨rfl, rfl⟩, rfl⟩
  repeat' (first | refine Wka ?_ | intro _ | apply And.intro)
  exact At_ret rfl rfl (.tmp rfl .nil) rfl (is := [0]) rfl ⟨rfl, rfl⟩
end Go.Proofs.YtfmkjbmogfhpbaaGreatDoor
set_option maxRecDepth 8000
namespace Go.Proofs.YtfmkjbmogfhpbaaGreatDoor
open Go.Sep Mk Ph
abbrev pickV (y : Int × Int) : List Value := [.int .u8 y.1, .int .i64 y.2]
structure PkOk (R : HP) (a : Option Addr) (cap : Nat) (ys : List (Int × Int)) : Prop where
  rd : Reads R 2 ys.length a cap (ys.flatMap pickV)
  bd : ∀ y ∈ ys, (0 ≤ y.1 ∧ y.1 ≤ 255) ∧ In64 y.2
  ln : ys.length ≤ 9223372036854775807
def NmOk (X : List Value) (i : Nat) : Prop := ∃ y0 y1 y2 y3 y4 : Int, (0 ≤ y0 ∧ y0 ≤ 255) ∧ (0 ≤ y1 ∧ y1 ≤ 255) ∧ (0 ≤ y2 ∧ y2 ≤ 255) ∧ (0 ≤ y3 ∧ y3 ≤ 255) ∧ (0 ≤ y4 ∧ y4 ≤ 255) ∧ takeL X (i * 5) 5 = some [.int .u8 y0, .int .u8 y1, .int .u8 y2, .int .u8 y3, .int .u8 y4]
set_option maxHeartbeats 64000000 in
theorem TopSame_law {W0 : World} (hG0 : Reads (Low W0) 1 13 (some ⟨0, 0, none⟩) 13 manyV) {g : GG} (hG : GOk (Low W0) g) {x0 x1 x2 x3 x4 x5 x6 x7 x8 x9 : Int} (hX0 : NmOk [.int .u8 x0, .int .u8 x1, .int .u8 x2, .int .u8 x3, .int .u8 x4, .int .u8 x5, .int .u8 x6, .int .u8 x7, .int .u8 x8, .int .u8 x9] 0) (hX1 : NmOk [.int .u8 x0, .int .u8 x1, .int .u8 x2, .int .u8 x3, .int .u8 x4, .int .u8 x5, .int .u8 x6, .int .u8 x7, .int .u8 x8, .int .u8 x9] 1)
    {a0 a1 : Option Addr} {c0 c1 : Nat} {ys0 ys1 : List (Int × Int)} (hY0 : PkOk (Low W0) a0 c0 ys0) (hY1 : PkOk (Low W0) a1 c1 ys1) :
    Does Tryz.prog 3 [gV g, .agg #[.int .u8 x0, .int .u8 x1, .int .u8 x2, .int .u8 x3, .int .u8 x4, .int .u8 x5, .int .u8 x6, .int .u8 x7, .int .u8 x8, .int .u8 x9], .agg #[.slice a0 ys0.length c0, .slice a1 ys1.length c1]] [Low W0] (fun v l => v = .bool true ∧ l = [Low W0]) := by
  have hA : Does Tryz.prog 5 [] [Low W0] _ := awake_top hG0
  have hl0 := hY0.ln
  have hl1 := hY1.ln
  refine Does.of tiok Tryz.func3 (by kernel_rfl) rfl Tryz.ntmps3 rfl ?_
  intro W fr
  repeat' (first | refine Wka ?_ | intro _ | apply And.intro)
  refine JO_l (OL_call [3] rfl rfl rfl (hA) rfl) rfl rfl ?_; rintro _ _ ⟨_, ⟨rfl, rfl⟩, rfl⟩
  repeat' (first | refine Wka ?_ | intro _ | apply And.intro)
  refine JO_l (OL_call [0] rfl rfl rfl (Few_spec hG) rfl) rfl rfl ?_; rintro _ _ ⟨_, ⟨rfl, rfl⟩, rfl⟩
  cases hf : fewB g with
  | false =>
    repeat' (first | refine Wka ?_ | intro _ | apply And.intro)
    refine JO_l (OL_call [0] rfl rfl rfl (hA) rfl) rfl rfl ?_; rintro _ _ ⟨_, ⟨rfl, rfl⟩, rfl⟩
    repeat' (first | refine Wka ?_ | intro _ | apply And.intro)
    exact At_ret rfl rfl (.tmp rfl .nil) rfl (is := [0]) rfl ⟨rfl, rfl⟩
  | true =>
  repeat' (first | refine Wka ?_ | intro _ | apply And.intro)
  refine JO_val (OV_idxA (off := 0) rfl rfl rfl rfl (by omega) (by decide) (by rfl)) rfl rfl ?_
  repeat' (first | refine Wka ?_ | intro _ | apply And.intro)
  · refine JO_l (OL_call [0] rfl rfl rfl (hA) rfl) rfl rfl ?_; rintro _ _ ⟨_, ⟨rfl, rfl⟩, rfl⟩
    repeat' (first | refine Wka ?_ | intro _ | apply And.intro)
    exact At_ret rfl rfl (.tmp rfl .nil) rfl (is := [0]) rfl ⟨rfl, rfl⟩
  rename_i hy0
  refine JO_val (OV_idxA (off := 1) rfl rfl rfl rfl (by omega) (by decide) (by rfl)) rfl rfl ?_
  repeat' (first | refine Wka ?_ | intro _ | apply And.intro)
  · refine JO_l (OL_call [0] rfl rfl rfl (hA) rfl) rfl rfl ?_; rintro _ _ ⟨_, ⟨rfl, rfl⟩, rfl⟩
    repeat' (first | refine Wka ?_ | intro _ | apply And.intro)
    exact At_ret rfl rfl (.tmp rfl .nil) rfl (is := [0]) rfl ⟨rfl, rfl⟩
  rename_i hy1
  obtain ⟨hn14, hr14, he10, hnd224⟩ := few_need hG hf
  have hB4 : Does Tryz.prog 7 [gV g, .int .i64 4] [Low W0] _ := Build_spec hG hf 4 (by omega)
  refine JO_l (OL_call [0] rfl rfl rfl (hB4) rfl) rfl rfl ?_; rintro _ _ ⟨_, ⟨p, bw, bs, n, T, ws, st, a, cap, os, ra, rc, hB, hn, hT, rfl, rfl⟩, rfl⟩
  clear hB4
  have htn := hB.ht.tn
  have hnb := hB.ht.nb
  have hlen := hB.ch.len
  obtain ⟨rts, hrts⟩ : ∃ rts, rts = g.rs.map (plcI (layG g.ns).at_) := ⟨_, rfl⟩
  have hrl : g.rs.length = rts.length := by rw [hrts, List.length_map]
  rw [← hrts, hrl]
  have hroot : ∀ z ∈ rts, z = 0 ∨ ∃ (j : Nat) (o : RO), os[j]? = some o ∧ z = (o.i : Int) + 1 ∧ o.k ≠ 15 := by
    intro z hz
    rw [hrts] at hz
    obtain ⟨y, _, rfl⟩ := List.mem_map.1 hz
    exact hB.root y
  have hrtl : rts.length ≤ 14 := by omega
  repeat' (first | refine Wka ?_ | intro _ | apply And.intro)
  refine JO_fact _ (fun w hs => rowz_len (T := 3) (sz := 1) (m := rts.length) (cap := rc) (a := ra) (cs := intsV rts) hs (by simp)) ?_
  rintro ⟨hl, hnn, hcc⟩
  have hRo : Reads (rowz 3 1 ra rts.length rc (intsV rts)) 1 rts.length ra rc (intsV rts) := Reads.rowz hl hnn
  refine JO_l (OL_call [4, 4, 4] rfl rfl rfl (Collected_spec (n : Int) hB.ht hB.ch hB.ro hroot hRo hrtl (by omega)) rfl) rfl rfl ?_
  rintro _ _ ⟨_, ⟨ms, b, os', a', cap', la, lc, hM, hRM, hc', rfl, rfl⟩, rfl⟩
  obtain ⟨wants, hwants⟩ : ∃ wants, wants = rts.map (fwI ms os) := ⟨_, rfl⟩
  have hwl : wants.length = rts.length := by rw [hwants, List.length_map]
  rw [← hwants]
  repeat' (first | refine Wka ?_ | intro _ | apply And.intro)
  rename_i b3 b4 b5 b9 _ b10 _
  have hbd0 := NWI_len (ms := ms) hB.ch hB.ht.wl htn
  obtain ⟨X, hX⟩ : ∃ X : List Value, X = [.int .u8 x0, .int .u8 x1, .int .u8 x2, .int .u8 x3, .int .u8 x4, .int .u8 x5, .int .u8 x6, .int .u8 x7, .int .u8 x8, .int .u8 x9] := ⟨_, rfl⟩
  rw [← hX] at hX0 hX1 ⊢
  have hXl : X.length = 10 := by rw [hX]; rfl
  have hRX : Reads (blk b4 X 27) 1 10 (some ⟨b4, 0, none⟩) 10 X := Reads.blk (by rw [hXl])
  clear hX
  refine J_loop (α := Nat) (fun i => i ≤ 2)
    (fun i => [(4, ptr b4 0), (5, ptr b5 0), (7, ptr p 0), (8, .slice ra rts.length rc), (10, ptr b10 0), (11, .slice la rts.length lc), (54, .int .i64 i)])
    (fun i => heapL p bw bs n ws T st ++ (rowz 3 1 ra rts.length rc (intsV rts) :: blk b4 X 27 :: blk b5 [.slice a0 ys0.length c0, .slice a1 ys1.length c1] 29 ::
      blk b10 [.int .i64 n, .slice a' os'.length cap'] 36 :: (refL a' cap' os' ++ [rowz 3 1 la rts.length lc (intsV wants), Low W0])))
    (fun i => 2 - i) 0 (Nat.zero_le _) Sgt (fun H hl => hl.pick (is := [9, 9, 9, 7, 10, 9, 0, 0, 0, 0, 4]) rfl) ?_
  intro i hi
  repeat' (first | refine Wkb ?_ | intro _ | apply And.intro)
  · rename_i hlt
    refine J_block ?_
    have hXi : NmOk X i := by
      have : i = 0 ∨ i = 1 := by omega
      rcases this with rfl | rfl
      · exact hX0
      · exact hX1
    obtain ⟨ai, ci, ys, hYi, hyl, hP⟩ : ∃ ai ci ys, PkOk (Low W0) ai ci ys ∧ ys.length ≤ 200 ∧ [Value.slice a0 ys0.length c0, Value.slice a1 ys1.length c1][i]? = some (.slice ai ys.length ci) := by
      have : i = 0 ∨ i = 1 := by omega
      rcases this with rfl | rfl
      · exact ⟨a0, c0, ys0, hY0, by omega, rfl⟩
      · exact ⟨a1, c1, ys1, hY1, by omega, rfl⟩
    obtain ⟨z0, z1, z2, z3, z4, k0, k1, k2, k3, k4, hXt⟩ := hXi
    repeat' (first | refine Wka ?_ | intro _ | apply And.intro)
    refine JO_val (OV_idxA (off := 0 + i * 5) rfl rfl rfl rfl (by omega) (by omega) (by simp)) rfl rfl ?_
    refine JO_q (OQ_readA hRX Mmt rfl rfl rfl (by omega) hXt) rfl rfl ?_
    repeat' (first | refine Wka ?_ | intro _ | apply And.intro)
    refine JO_l (OL_call [] rfl rfl rfl (Numbers15_spec k0 k1 k2 k3 k4) rfl) rfl rfl ?_
    rintro _ _ ⟨_, ⟨rfl, rfl⟩, rfl⟩
    obtain ⟨wk, hwk, hwk2⟩ : ∃ wk : Nat, 1 + z0 % 7 = (wk : Int) ∧ 1 ≤ wk ∧ wk ≤ 7 := ⟨(1 + z0 % 7).toNat, by omega, by omega⟩
    obtain ⟨rm, hrm, hrm2⟩ : ∃ rm : Nat, 2 + z1 % 6 = (rm : Int) ∧ 2 ≤ rm ∧ rm ≤ 1024 := ⟨(2 + z1 % 6).toNat, by omega, by omega⟩
    obtain ⟨kk, hkk, hkk2⟩ : ∃ kk : Nat, 1 + z2 % 5 = (kk : Int) ∧ 1 ≤ kk ∧ kk ≤ 4095 := ⟨(1 + z2 % 5).toNat, by omega, by omega⟩
    obtain ⟨pt, hpt, hpt2⟩ : ∃ pt : Nat, 1 + z3 % 5 = (pt : Int) ∧ 1 ≤ pt ∧ pt ≤ 64 := ⟨(1 + z3 % 5).toNat, by omega, by omega⟩
    have hrg : In64 (2 + z4 % 20) := by constructor <;> omega
    generalize 2 + z4 % 20 = rg at hrg ⊢
    rw [hwk, hrm, hkk, hpt]
    clear hwk hrm hkk hpt k0 k1 k2 k3 k4 hXt
    repeat' (first | refine Wka ?_ | intro _ | apply And.intro)
    rename_i b13 _
    refine JO_l (OL_call [1, 1, 1, 1] rfl rfl rfl (CNew_spec (reg := rg) hB.ht hB.ch hB.ro (by omega) (by omega) hroot hrtl hRo hwk2 hrm2 hkk2 hpt2 hrg) rfl) rfl rfl ?_
    rintro _ _ ⟨_, ⟨E, V, hPo, hK, rfl, rfl, rfl, rfl, rfl, rfl, rfl, rfl, rfl, rfl, _, rfl, rfl⟩, rfl⟩
    repeat' (first | refine Wka ?_ | intro _ | apply And.intro)
    have hEW1 := hPo.e.W1
    have hEW2 := hPo.e.W2
    refine JO_val (OV_idxA (off := 0 + i) rfl rfl rfl rfl (by omega) (by omega) (by simp)) rfl rfl ?_
    refine JO_q (OQ_load (v := .slice ai ys.length ci) rfl rfl Mmt (by rw [Nat.zero_add]; exact hP)) rfl rfl ?_
    have hyln := hYi.ln
    repeat' (first | refine Wka ?_ | intro _ | apply And.intro)
    let RS : List HP := [rowz 3 1 ra E.rts.length rc (intsV E.rts), blk b13 [.int .i64 E.W, .int .i64 rm, .int .i64 kk, .int .i64 pt, .int .i64 rg] 42, blk b4 X 27, blk b5 [.slice a0 ys0.length c0, .slice a1 ys1.length c1] 29,
      blk b10 [.int .i64 E.n, .slice a' os'.length cap'] 36, objsZ a' cap' os', RW os', rowz 3 1 la E.rts.length lc (intsV wants), Low W0]
    refine J_loop (α := Nat × Nat × CS) (fun x => x.1 ≤ ys.length ∧ x.2.1 ≤ x.1 ∧ PIn E x.2.1 x.2.2)
      (fun x => [(4, ptr b4 0), (5, ptr b5 0), (7, ptr E.p 0), (8, .slice ra E.rts.length rc), (10, ptr b10 0), (11, .slice la E.rts.length lc), (12, .int .i64 i), (13, ptr b13 0), (14, ptr V.pc 0), (54, .int .i64 i), (76, .slice ai ys.length ci), (77, .int .i64 ys.length), (78, .int .i64 x.1)])
      (fun x => RS ++ colS E V x.2.1 x.2.2) (fun x => ys.length - x.1) (0, 0, .mk (ms0 E.n E.W E.rm E.rS)) ⟨Nat.zero_le _, Nat.le_refl _, PIn.new hK⟩ Sgt (fun H hl => hl.perm (picks_perm (is := [0, 20, 20, 20, 20, 20, 20, 20, 20]) rfl)) ?_
    rintro ⟨q, stn, c⟩ ⟨hq, hsq, hPi⟩
    dsimp only at hq hsq hPi ⊢
    repeat' (first | refine Wkb ?_ | intro _ | apply And.intro)
    · rename_i hqlt
      refine J_block ?_
      obtain ⟨y, hyq⟩ : ∃ y, ys[q]? = some y := ⟨ys[q]'(by omega), List.getElem?_eq_getElem _⟩
      have hyt : takeL (ys.flatMap pickV) (q * 2) 2 = some (pickV y) := flat_take (f := pickV) (sz := 2) (fun _ _ => rfl) hyq
      obtain ⟨⟨hw0, hw1⟩, hd⟩ := hYi.bd y (List.mem_of_getElem? hyq)
      have hYr := hYi.rd
      repeat' (first | refine Wka ?_ | intro _ | apply And.intro)
      refine JO_fact _ (fun w hs => hYr.some (by omega) hs (by simp [RS])) ?_
      rintro ⟨bo, oo, rfl⟩
      refine JO_val (OV_idx (off := oo + q * 2) rfl rfl rfl rfl (by omega) (by omega) (by simp)) rfl rfl ?_
      refine JO_q (OQ_readA hYr (by simp [RS]) rfl rfl rfl (by omega) hyt) rfl rfl ?_
      repeat' (first | refine Wka ?_ | intro _ | apply And.intro)
      rename_i b17 _
      let B13 : HP := blk b13 [.int .i64 E.W, .int .i64 rm, .int .i64 kk, .int .i64 pt, .int .i64 rg] 42
      let B17 : HP := blk b17 [.int .u8 y.1, .int .i64 y.2] 49
      obtain ⟨w, hw, hwW⟩ : ∃ w : Nat, y.1 % (E.W : Int) = (w : Int) ∧ w < E.W := by
        have h1 := Int.emod_nonneg y.1 (show (E.W : Int) ≠ 0 by omega)
        have h2 := Int.emod_lt_of_pos y.1 (show (0 : Int) < E.W by omega)
        exact ⟨(y.1 % (E.W : Int)).toNat, by omega, by omega⟩
      refine J_drawk [B17, B13] (fun H hl => (hl.perm (picks_perm (is := [0, 1]) rfl)).left) [0, 0, 5, 0, 0, 5, 0, 0, 5, 2] (List.range 10) (by kernel_rfl) (by kernel_rfl) ?_
      repeat' (first | refine Wke ?_ | intro _ | apply And.intro)
      rw [hw]
      refine JX_lk rfl rfl (OL_callP (r := blk b17 [.int .u8 y.1, .int .i64 y.2] 49 :: RS) rfl rfl rfl (CStep_spec hPo hPi.1 (by omega) hwW hd) (List.perm_append_comm (l₁ := blk b17 [.int .u8 y.1, .int .i64 y.2] 49 :: RS))) rfl rfl ?_ ?_
      · rintro _ _ ⟨_, ⟨c', e, st', _, _, _, rfl, rfl⟩, rfl⟩ H hl
        exact ((hl.perm List.perm_append_comm).perm (picks_perm (is := [0, 1]) rfl)).left
      rintro _ _ ⟨_, ⟨c', e, st', hS, hc', hst, rfl, rfl⟩, rfl⟩ _
      have hPi' := hPi.step hS hc'
      repeat' (first | refine Wke ?_ | intro _ | apply And.intro)
      repeat' (first | refine Wka ?_ | intro _ | apply And.intro)
      exact At_round (q + 1, st', c') (by show ys.length - (q + 1) < ys.length - q; omega) ⟨by show q + 1 ≤ ys.length; omega, by show st' ≤ q + 1; omega, hPi'⟩ Sgt (fun H hl => (hl.perm List.perm_append_comm).tail)
    have hme := hPi.meas hPo.e
    have hM0 := M0_le hPo.e.h.tn (by omega)
    repeat' (first | refine Wka ?_ | intro _ | apply And.intro)
    refine JO_l (OL_callP (r := RS) rfl rfl rfl (CRun_spec hPo hPi.1 hme (by omega)) (List.perm_append_comm (l₁ := RS))) rfl rfl ?_
    rintro _ _ ⟨_, ⟨S, ms2, r, tv, sv, stn2, kr, hZ, hZo, _, _, rfl, rfl⟩, rfl⟩
    clear hme hM0 hPi
    repeat' (first | refine Wka ?_ | intro _ | apply And.intro)
    refine JO_l (OL_callP (r := RS) rfl rfl rfl (Result_spec hPo hZ hZo) (.refl _)) rfl rfl ?_
    rintro _ _ ⟨_, ⟨p2, bw2, bs2, st2, out, ao, co, hHT, hol, hfw, rfl, rfl⟩, rfl⟩
    have hsm := hZ.rm.same hRM
    rw [NWI_same hsm, lvs_same hsm] at hHT ⊢
    repeat' (first | refine Wka ?_ | intro _ | apply And.intro)
    refine J_hp (l' := heapL p2 bw2 bs2 E.n (NWI E.T E.ws ms E.os) (szL (lvs ms E.os)) st2 ++ (row 3 1 ao E.rts.length co (intsV out) :: (heapL E.p E.bw E.bs E.n E.ws E.T E.st ++
      [rowz 3 1 ra E.rts.length rc (intsV E.rts), blk b4 X 27, blk b5 [.slice a0 ys0.length c0, .slice a1 ys1.length c1] 29,
      blk b10 [.int .i64 E.n, .slice a' os'.length cap'] 36, objsZ a' cap' os', RW os', rowz 3 1 la E.rts.length lc (intsV wants), Low W0]))) (fun H hl => hl.pick (is := [0, 0, 0, 0, 8, 8, 8, 14, 15, 15, 15, 15, 15, 15, 15]) rfl) ?_
    refine J_drawk [blk b10 [.int .i64 E.n, .slice a' os'.length cap'] 36] (fun H hl => (hl.perm (picks_perm (is := [10]) rfl)).left) [0, 0, 0, 0, 0, 2, 0, 2, 5, 2, 0, 0, 0, 0, 0, 0, 0, 0, 0] [0, 1, 2, 3, 4, 6, 8, 5, 7, 9, 10, 11, 12, 13, 14, 15, 16, 17, 18] (by kernel_rfl) (by kernel_rfl) ?_
    repeat' (first | refine Wke ?_ | intro _ | apply And.intro)
    refine JX_lk rfl rfl (OL_call [4, 4, 4] rfl rfl rfl (heapWords hB.ht.wl hnb) rfl) rfl rfl ?_ ?_
    · rintro _ _ ⟨_, ⟨aw, cw, hna, rfl, rfl⟩, rfl⟩ H hl
      exact (hl.perm (picks_perm (is := [11]) rfl)).left
    rintro _ _ ⟨_, ⟨aw, cw, hna, rfl, rfl⟩, rfl⟩ _
    repeat' (first | refine Wke ?_ | intro _ | apply And.intro)
    refine JX_lk rfl rfl (OL_call [1, 1, 1] rfl rfl rfl heapTop rfl) rfl rfl ?_ ?_
    · rintro _ _ ⟨_, ⟨rfl, rfl⟩, rfl⟩ H hl
      exact (hl.perm (picks_perm (is := [11]) rfl)).left
    rintro _ _ ⟨_, ⟨rfl, rfl⟩, rfl⟩ _
    repeat' (first | refine Wke ?_ | intro _ | apply And.intro)
    have hwln := hB.ht.wl
    have hRw : Reads (row 3 1 aw E.n cw (intsV E.ws)) 1 E.n aw cw (intsV E.ws) := Reads.row (by simp; omega) hna
    refine JX_lk rfl rfl (OL_call [4, 4, 4, 9, 9, 3] rfl rfl rfl (Is14_spec hHT hc' hwln hRw htn (fun x h1 h2 => NWI_zero h1 h2) (fun x h => NWI_rest hB.ch h)) rfl) rfl rfl ?_ ?_
    · rintro _ _ ⟨_, ⟨rfl, rfl⟩, rfl⟩ H hl
      exact (hl.perm (picks_perm (is := [13]) rfl)).left
    rintro _ _ ⟨_, ⟨rfl, rfl⟩, rfl⟩ _
    repeat' (first | refine Wke ?_ | intro _ | apply And.intro)
    repeat' (first | refine Wka ?_ | intro _ | apply And.intro)
    have hout : out = wants := by
      apply List.ext_getElem?
      intro k
      rw [hwants, List.getElem?_map]
      cases hk : E.rts[k]? with
      | none =>
        rw [List.getElem?_eq_none_iff] at hk
        rw [List.getElem?_eq_none (by omega)]; rfl
      | some z =>
        have hkl := (List.getElem?_eq_some_iff.1 hk).1
        obtain ⟨z', hz'⟩ : ∃ z', out[k]? = some z' := ⟨out[k]'(by omega), List.getElem?_eq_getElem _⟩
        rw [hz', fwI_of hB.ch (hfw k z z' hk hz'), fwI_same hsm]
        rfl
    subst hout
    refine J_loop (α := Nat) (fun k => k ≤ E.rts.length)
      (fun k => [(4, ptr b4 0), (5, ptr b5 0), (7, ptr E.p 0), (8, .slice ra E.rts.length rc), (10, ptr b10 0), (11, .slice la E.rts.length lc), (19, .slice ao E.rts.length co), (54, .int .i64 i), (120, .slice ao E.rts.length co), (121, .int .i64 E.rts.length), (122, .int .i64 k)])
      (fun k => heapL E.p E.bw E.bs E.n E.ws E.T E.st ++ (rowz 3 1 ra E.rts.length rc (intsV E.rts) :: blk b4 X 27 :: blk b5 [.slice a0 ys0.length c0, .slice a1 ys1.length c1] 29 ::
        blk b10 [.int .i64 E.n, .slice a' os'.length cap'] 36 :: (refL a' cap' os' ++ [rowz 3 1 la E.rts.length lc (intsV out), row 3 1 ao E.rts.length co (intsV out), Low W0])))
      (fun k => E.rts.length - k) 0 (Nat.zero_le _) Sgt (fun H hl => hl.pick (is := [6, 6, 6, 7, 7, 7, 7, 3, 3, 5, 4, 4]) rfl) ?_
    intro k hk
    repeat' (first | refine Wkb ?_ | intro _ | apply And.intro)
    · rename_i hklt
      refine J_block ?_
      refine J_fact _ (fun w hs => row_len (T := 3) (sz := 1) (m := E.rts.length) (cap := co) (a := ao) (cs := intsV out) hs (by simp)) ?_
      rintro ⟨hlo, hno, hco⟩
      have hRa : Reads (row 3 1 ao E.rts.length co (intsV out)) 1 E.rts.length ao co (intsV out) := Reads.row hlo hno
      refine J_fact _ (fun w hs => rowz_len (T := 3) (sz := 1) (m := E.rts.length) (cap := lc) (a := la) (cs := intsV out) hs (by simp)) ?_
      rintro ⟨hlw, hnw, hcw⟩
      have hRb : Reads (rowz 3 1 la E.rts.length lc (intsV out)) 1 E.rts.length la lc (intsV out) := Reads.rowz hlw hnw
      obtain ⟨z, hz⟩ : ∃ z, out[k]? = some z := ⟨out[k]'(by omega), List.getElem?_eq_getElem _⟩
      refine J_fact _ (fun w hs => hRa.some (by omega) hs (by simp)) ?_
      rintro ⟨r1, q1, rfl⟩
      refine J_fact _ (fun w hs => hRb.some (by omega) hs (by simp)) ?_
      rintro ⟨r2, q2, rfl⟩
      repeat' (first | refine Wka ?_ | intro _ | apply And.intro)
      refine J_drawk [rowz 3 1 (some ⟨r2, q2, none⟩) E.rts.length lc (intsV out), row 3 1 (some ⟨r1, q1, none⟩) E.rts.length co (intsV out)] (fun H hl => (hl.perm (picks_perm (is := [9, 9]) rfl)).left) [0, 0, 0, 5, 0, 0, 0, 5, 0] (List.range 9) (by kernel_rfl) (by kernel_rfl) ?_
      repeat' (first | refine Wke ?_ | intro _ | apply And.intro)
      refine JX_val rfl rfl (OV_idx (off := q1 + k) rfl rfl rfl rfl (by omega) (by omega) (by omega)) rfl rfl ?_
      refine JX_kept rfl rfl (OK_read (i := k) (v := .int .i64 z) hRa (by simp) rfl rfl (by omega) (by simp [hz])) rfl rfl ?_
      repeat' (first | refine Wke ?_ | intro _ | apply And.intro)
      refine JX_val rfl rfl (OV_idx (off := q2 + k) rfl rfl rfl rfl (by omega) (by omega) (by omega)) rfl rfl ?_
      refine JX_kept rfl rfl (OK_read (i := k) (v := .int .i64 z) hRb (by simp) rfl rfl (by omega) (by simp [hz])) rfl rfl ?_
      repeat' (first | refine Wke ?_ | intro _ | apply And.intro)
      repeat' (first | refine Wka ?_ | intro _ | apply And.intro)
      exact At_round (k + 1) (by show E.rts.length - (k + 1) < E.rts.length - k; omega) (by show k + 1 ≤ E.rts.length; omega) Sgt (fun H hl => hl)
    repeat' (first | refine Wka ?_ | intro _ | apply And.intro)
    exact At_round (i + 1) (by show 2 - (i + 1) < 2 - i; omega) (by show i + 1 ≤ 2; omega) Sgt (fun H hl => hl.pick (is := [0, 0, 0, 0, 0, 0, 0, 0, 0, 0, 1]) rfl)
  · repeat' (first | refine Wka ?_ | intro _ | apply And.intro)
    exact At_ret rfl rfl (.tmp rfl .nil) rfl (is := [10]) rfl ⟨rfl, rfl⟩
open Go.Sep Go.ChangeShapes Go.WideShapes Go.ChangeAt Go.RowKit
set_option maxRecDepth 100000 in
theorem many_reads {W : World} (h : laidMet Tryz.prog Rows.topSameRow.laid W) : Reads (Low W) 1 13 (some ⟨0, 0, none⟩) 13 manyV :=
  reads_laid (ns := [0, 4, 0, 1, 0, 2, 3, 3, 2, 0, 2, 0, 0]) (g := 0) (t := 227) (by kernel_rfl) (by kernel_rfl) Tryz.underlying227 Tryz.underlying3 (by kernel_rfl) (by kernel_rfl) h
theorem nm_ok {az bz : List Int} (ha : az.length = 5) (hb : bz.length = 5) (wa : ∀ z ∈ az, (Lit.int .u8 z).wf = true) (wb : ∀ z ∈ bz, (Lit.int .u8 z).wf = true) :
    ∃ x0 x1 x2 x3 x4 x5 x6 x7 x8 x9 : Int, az.map (Value.int .u8) ++ bz.map (Value.int .u8) = [.int .u8 x0, .int .u8 x1, .int .u8 x2, .int .u8 x3, .int .u8 x4, .int .u8 x5, .int .u8 x6, .int .u8 x7, .int .u8 x8, .int .u8 x9] ∧
      NmOk [.int .u8 x0, .int .u8 x1, .int .u8 x2, .int .u8 x3, .int .u8 x4, .int .u8 x5, .int .u8 x6, .int .u8 x7, .int .u8 x8, .int .u8 x9] 0 ∧ NmOk [.int .u8 x0, .int .u8 x1, .int .u8 x2, .int .u8 x3, .int .u8 x4, .int .u8 x5, .int .u8 x6, .int .u8 x7, .int .u8 x8, .int .u8 x9] 1 := by
  match az, ha, bz, hb with
  | [x0, x1, x2, x3, x4], _, [x5, x6, x7, x8, x9], _ =>
    exact ⟨x0, x1, x2, x3, x4, x5, x6, x7, x8, x9, rfl, ⟨x0, x1, x2, x3, x4, bounds_u8 (wa _ (by simp)), bounds_u8 (wa _ (by simp)), bounds_u8 (wa _ (by simp)), bounds_u8 (wa _ (by simp)), bounds_u8 (wa _ (by simp)), rfl⟩, x5, x6, x7, x8, x9, bounds_u8 (wb _ (by simp)), bounds_u8 (wb _ (by simp)), bounds_u8 (wb _ (by simp)), bounds_u8 (wb _ (by simp)), bounds_u8 (wb _ (by simp)), rfl⟩
theorem pk_ok {W : World} {a : Option Addr} {c : Nat} {ys : List (Int × Int)} (h : Reads (Low W) 2 ys.length a c (ys.flatMap pickC) ∧ (∀ y ∈ ys, (Lit.int .u8 y.1).wf = true ∧ (Lit.int .i64 y.2).wf = true) ∧ ys.length ≤ 9223372036854775807) : PkOk (Low W) a c ys :=
  ⟨h.1, fun y hy => ⟨bounds_u8 (h.2.1 y hy).1, bounds_i64 (h.2.1 y hy).2⟩, h.2.2⟩
set_option maxRecDepth 100000 in
theorem TopSame_lifted (os : Os) (started : os.Started) (H : Type) (enc : TypeId × Value → H) :
    ReturnsInHanded {} Tryz.checked os 3 .any (fun w args => (Rows.topSameSpec.pre enc Tryz.prog Tryz.f3 Rows.topSameRow.domain false w args ∧ laidMet Tryz.prog Rows.topSameRow.laid w) ∧ sizedMet enc Tryz.prog Tryz.f3 (OpenSpec.ofChange Rows.topSameSpec) false w args)
      (Rows.topSameSpec.post enc Tryz.prog Tryz.f3 false true false false) := by
  refine law_lifted_laid (C := Tryz.checked) (laid := Rows.topSameRow.laid) ownGodebug os started (by kernel_rfl) Tryz.func3 laidOut (by kernel_rfl) rfl Tryz.underlying4 rfl (fun ds h => ?_)
    (ChangeSpec.witness_at (enc := enc) (C := Tryz.checked) (os := os) (X := fun w _ => laidMet Tryz.prog Rows.topSameRow.laid w) false (World.laidAll Tryz.prog os Rows.topSameRow.laid) #[.agg #[.slice none 0 0, .slice none 0 0], .agg #[.int .u8 0, .int .u8 0, .int .u8 0, .int .u8 0, .int .u8 0, .int .u8 0, .int .u8 0, .int .u8 0, .int .u8 0, .int .u8 0], .agg #[.slice none 0 0, .slice none 0 0]] 8
      (World.laidAll_os _ _ _) (by kernel_rfl) (by kernel_rfl) (by kernel_rfl) (by kernel_rfl) (by kernel_rfl) (laidMet_laidAll _ (by kernel_rfl) (by kernel_rfl))) ?_
  · match ds, h with
    | [d0, d1, d2], _ => rfl
  intro W base args ds ps hval hA hL
  have hG0 := many_reads hL
  rw [Tryz.params3] at hA hval
  obtain ⟨v0, vs0, d0, ds0, p0, q0, hargs, rfl, rfl, h0, r0⟩ := trodAll_cons hA
  obtain ⟨v1, vs1, d1, ds1, p1, q1, rfl, rfl, rfl, h1, r1⟩ := trodAll_cons r0
  obtain ⟨v2, vs2, d2, ds2, p2, q2, rfl, rfl, rfl, h2, r2⟩ := trodAll_cons r1
  obtain ⟨rfl, rfl, rfl⟩ := trodAll_nil r2
  obtain rfl : args = #[v0, v1, v2] := by cases args; simp_all
  obtain ⟨g, rfl, hG⟩ := open_gg (hval 0 _ v0 rfl rfl) h0
  obtain ⟨az, bz, rfl, la, lb, wa, wb⟩ := open_arr2 Tryz.underlying27 Tryz.underlying26 Tryz.underlying5 (by kernel_rfl) (by kernel_rfl) (by kernel_rfl) (hval 1 _ v1 rfl rfl) h1
  obtain ⟨x0, x1, x2, x3, x4, x5, x6, x7, x8, x9, hx, hn0, hn1⟩ := nm_ok la lb wa wb
  rw [hx]
  obtain ⟨a0, c0, a1, c1, ys0, ys1, rfl, k0, k1⟩ := open_picks2 Tryz.underlying29 (by kernel_rfl) (by kernel_rfl) Tryz.underlying28 Tryz.underlying49 (by kernel_rfl) rfl rfl (by kernel_rfl) (by kernel_rfl) Tryz.underlying5 Tryz.underlying3 (hval 2 _ v2 rfl rfl) h2
  exact Does.calls (TopSame_law hG0 hG hn0 hn1 (pk_ok k0) (pk_ok k1))
theorem topSame_holds : Rows.TopSameSaid :=
  OpenClaim.holds_of_wide 3 Tryz.f3 rfl rfl rfl rfl rfl rfl rfl ⟨rfl, rfl, rfl, rfl, rfl⟩ rfl rfl rfl rfl rfl (by kernel_rfl) Tryz.func3 (by kernel_rfl)
    (of_decide_eq_true (by kernel_rfl)) (by unfold Func.isWrapper; first | (rw [if_pos (by decide +kernel)]; kernel_rfl) | (rw [if_neg (by decide +kernel)]; exact ⟨rfl, rfl⟩))
    (fun os started H enc _ => TopSame_lifted os started H enc)
#print axioms topSame_holds
end Go.Proofs.YtfmkjbmogfhpbaaGreatDoor
