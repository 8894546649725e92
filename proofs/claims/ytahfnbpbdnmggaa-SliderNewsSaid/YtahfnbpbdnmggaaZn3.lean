/-
  Our own: what the claims of Zn share, 3 of 6: Ga Gc Gd Gf Ge Gg Gi Gj Gk Jr.
-/
import Derived.Test.YtahfnbpbdnmggaaZn2
import Derived.RangeFuncStops
import Derived.RangeFuncLeaves
import Derived.LoopNIn
import Derived.Laws.StructEq
import Derived.Tactics
import Derived.Laws.Slices
import Derived.Deep.Quiet
import Derived.IntWalk
import Derived.Shelf.Abstract
import Derived.Laws.Entries
import Derived.Laws.Rows
import Derived.Below
import Derived.TacticsIn
import Derived.OrdersIn
import Derived.KernelRfl
import Derived.Test.YtahfnbpbdnmggaaProg
import Derived.ChangeArms
import Derived.WalkKit
import Derived.ProofKit
import Derived.OpenShut
import Derived.ChangeOld
import Derived.SizedLaws
import Derived.Carry
import Derived.Lib.SmallJoins
import Derived.Laws.Shifts
import Derived.Laws.Bits64b
/-
  Our own: the document's heaps (besomref01): objects that a list holds, what they own; Find, Top, Leads.
-/
set_option linter.unusedVariables false
set_option linter.unusedSimpArgs false
namespace Go.Proofs.Ytahfnbpbdnmggaa
open Go.Sep
/-- An object of the document's: its address, its kind and how many references, its words, and where they lie. -/
structure RO where
  i : Nat
  k : Int
  p : Int
  ws : List Int
  wa : Option Addr
  wc : Nat
abbrev cellsO (o : RO) : List Value := [.int .i64 o.i, .int .i64 o.k, .int .i64 o.ws.length, .int .i64 o.p, .slice o.wa o.ws.length o.wc]
abbrev rowO (o : RO) : HP := rowz 3 1 o.wa o.ws.length o.wc (intsV o.ws)
def RW (os : List RO) : HP := big (os.map rowO)
abbrev objsZ (a : Option Addr) (cap : Nat) (os : List RO) : HP := rowz 47 5 a os.length cap (os.flatMap cellsO)
abbrev refL (a : Option Addr) (cap : Nat) (os : List RO) : List HP := [objsZ a cap os, RW os]
abbrev refV (size : Int) (a : Option Addr) (n cap : Nat) : Value := .agg #[.int .i64 size, .slice a n cap]
def okW (os : List RO) : Prop := ∀ o ∈ os, o.wa = none → o.ws.length = 0 ∧ o.wc = 0
theorem one_star {p : HP} {h H : PH} (s : Sub h H) (k : p h) : Stars [p] H := ⟨h, fun _ => none, fun _ => .inr rfl, s, (fun _ _ e => by cases e), k, trivial⟩
theorem rowz_none {T sz m cap : Nat} {cs : List Value} {h : PH} (k : rowz T sz none m cap cs h) : m = 0 ∧ cap = 0 := by
  rcases k with ⟨h1, h2, _⟩ | ⟨_, h1, h2, _⟩ | ⟨b, pre, sp, e, _⟩
  · exact ⟨h1, h2⟩
  · exact ⟨h1, h2⟩
  · cases e
theorem RW_ok {W w : World} {l : List HP} {os : List RO} (hs : Sat W l w) (hm : RW os ∈ l) : okW os := by
  intro o ho hn
  obtain ⟨h1, s1, k1⟩ := hs.stars.mem hm
  obtain ⟨h2, s2, k2⟩ := Stars.mem (l := os.map rowO) k1 (List.mem_map_of_mem (f := rowO) ho)
  have k3 : rowz 3 1 o.wa o.ws.length o.wc (intsV o.ws) h2 := k2
  rw [hn] at k3
  exact rowz_none k3
theorem RW.reads {os : List RO} {o : RO} (ho : o ∈ os) (ok : okW os) : Reads (RW os) 1 o.ws.length o.wa o.wc (intsV o.ws) := by
  have hr : Reads (rowO o) 1 o.ws.length o.wa o.wc (intsV o.ws) := Reads.rowz (by simp) (ok o ho)
  refine ⟨by simp, ok o ho, fun W l w hs hm i hi => ?_⟩
  obtain ⟨h1, s1, k1⟩ := hs.stars.mem hm
  obtain ⟨h2, s2, k2⟩ := Stars.mem (l := os.map rowO) k1 (List.mem_map_of_mem (f := rowO) ho)
  exact hr.cell W [rowO o] w ⟨hs.os, hs.tape, hs.output, one_star (s2.trans s1) k2⟩ (.head _) i hi
/-- New words' rows in, those that nothing holds any more out. -/
theorem RW.to {news os os' dr : List RO} {l : List HP} {H : PH} (h : (news ++ os).Perm (os' ++ dr)) (hs : Stars (news.map rowO ++ RW os :: l) H) : Stars (RW os' :: l) H := by
  have h1 : Stars (big (os.map rowO) :: (news.map rowO ++ l)) H := hs.perm List.perm_middle
  have h2 := h1.open
  have h3 : Stars (os'.map rowO ++ (dr.map rowO ++ l)) H := by
    refine h2.perm ?_
    rw [← List.append_assoc, ← List.append_assoc, ← List.map_append, ← List.map_append]
    exact ((List.perm_append_comm.trans h).map rowO).append_right _
  obtain ⟨a, b, ap, s1, s2, p1, p2⟩ := h3.app
  exact (Stars.unapp ap s1 s2 p1 p2.right).shut
theorem objs_get {os : List RO} {j : Nat} {o : RO} (h : os[j]? = some o) {r : Nat} (hr : r < 5) : (os.flatMap cellsO)[j * 5 + r]? = (cellsO o)[r]? := flat_get (f := cellsO) (fun _ _ => rfl) h hr
theorem objs_take {os : List RO} {j : Nat} {o : RO} (h : os[j]? = some o) : takeL (os.flatMap cellsO) (j * 5) 5 = some (cellsO o) := flat_take (f := cellsO) (fun _ _ => rfl) h
theorem objs_len {os : List RO} : (os.flatMap cellsO).length = os.length * 5 := flat_len (f := cellsO) (fun _ _ => rfl)
/-- Objects that lie in words one behind the other, from i up to T. -/
def Ch (ws : List Int) : Nat → List RO → Nat → Prop
  | i, [], T => i = T
  | i, o :: r, T => o.i = i ∧ goodB o.k o.ws.length o.p = true ∧ ws[i]? = some (packI o.k o.ws.length o.p) ∧ (∀ j : Nat, j < o.ws.length → ws[i + 1 + j]? = o.ws[j]?) ∧ Ch ws (i + 1 + o.ws.length) r T
theorem Ch.le {ws : List Int} : ∀ {os : List RO} {i T : Nat}, Ch ws i os T → i ≤ T
  | [], i, T, h => Nat.le_of_eq h
  | o :: r, i, T, h => by have := Ch.le h.2.2.2.2; omega
theorem Ch.len {ws : List Int} : ∀ {os : List RO} {i T : Nat}, Ch ws i os T → i + os.length ≤ T
  | [], i, T, h => Nat.le_of_eq h
  | o :: r, i, T, h => by have := Ch.len h.2.2.2.2; simp; omega
theorem Ch.app {ws : List Int} {b : List RO} {T : Nat} : ∀ {a : List RO} {i : Nat}, Ch ws i (a ++ b) T ↔ ∃ m, Ch ws i a m ∧ Ch ws m b T
  | [], i => ⟨fun h => ⟨i, rfl, h⟩, fun ⟨m, h1, h2⟩ => by cases h1; exact h2⟩
  | o :: r, i => by
    constructor
    · rintro ⟨h1, h2, h3, h4, h5⟩
      obtain ⟨m, k1, k2⟩ := Ch.app.1 h5
      exact ⟨m, ⟨h1, h2, h3, h4, k1⟩, k2⟩
    · rintro ⟨m, ⟨h1, h2, h3, h4, h5⟩, k⟩
      exact ⟨h1, h2, h3, h4, Ch.app.2 ⟨m, h5, k⟩⟩
theorem Ch.keep {ws ws' : List Int} : ∀ {os : List RO} {i T : Nat}, Ch ws i os T → (∀ j, i ≤ j → j < T → ws'[j]? = ws[j]?) → Ch ws' i os T
  | [], i, T, h, _ => h
  | o :: r, i, T, ⟨h1, h2, h3, h4, h5⟩, k => by
    have := h5.le
    exact ⟨h1, h2, by rw [k i (Nat.le_refl _) (by omega)]; exact h3, fun j hj => by rw [k _ (by omega) (by omega)]; exact h4 j hj, h5.keep fun j a b => k j (by omega) b⟩
/-- The j-th of them. -/
theorem Ch.at {ws : List Int} {os : List RO} {i T j : Nat} {o : RO} (h : Ch ws i os T) (hj : os[j]? = some o) : Ch ws i (os.take j) o.i ∧ Ch ws o.i (o :: os.drop (j + 1)) T := by
  have hlt : j < os.length := (List.getElem?_eq_some_iff.1 hj).1
  have e : os = os.take j ++ o :: os.drop (j + 1) := by
    conv => lhs; rw [← List.take_append_drop j os]
    rw [List.drop_eq_getElem_cons hlt]
    rw [List.getElem?_eq_getElem hlt] at hj
    injection hj with hj
    rw [hj]
  rw [e] at h
  obtain ⟨m, h1, h2⟩ := Ch.app.1 h
  obtain rfl := h2.1
  exact ⟨h1, h2⟩
theorem Ch.end_ {ws : List Int} {os : List RO} {i T j : Nat} {o : RO} (h : Ch ws i os T) (hj : os[j]? = some o) : Ch ws i (os.take (j + 1)) (o.i + 1 + o.ws.length) := by
  obtain ⟨h1, h2⟩ := h.at hj
  have hlt : j < os.length := (List.getElem?_eq_some_iff.1 hj).1
  rw [List.getElem?_eq_getElem hlt] at hj
  injection hj with hj
  rw [List.take_add_one, List.getElem?_eq_getElem hlt, hj, Option.toList_some]
  exact Ch.app.2 ⟨o.i, h1, rfl, h2.2.1, h2.2.2.1, h2.2.2.2.1, rfl⟩
def findR (os : List RO) (x r : Int) : Prop := (∃ (j : Nat) (o : RO), r = j ∧ os[j]? = some o ∧ (o.i : Int) = x) ∨ (r = -1 ∧ ∀ o ∈ os, (o.i : Int) ≠ x)
/-- Where the q-th of them begins. -/
def posAt (os : List RO) (T q : Nat) : Nat := match os[q]? with | some o => o.i | none => T
theorem Ch.pos0 {ws : List Int} {os : List RO} {i T : Nat} (h : Ch ws i os T) : posAt os T 0 = i := by
  cases os with
  | nil => exact h.symm
  | cons o r => exact h.1
theorem posAt_of {os : List RO} {T q : Nat} {o : RO} (h : os[q]? = some o) : posAt os T q = o.i := by unfold posAt; rw [h]
theorem posAt_end {os : List RO} {T : Nat} : posAt os T os.length = T := by unfold posAt; rw [List.getElem?_eq_none (Nat.le_refl _)]
theorem Ch.pos_le {ws : List Int} {os : List RO} {i T : Nat} (h : Ch ws i os T) (q : Nat) : posAt os T q ≤ T := by
  unfold posAt
  split
  · rename_i o ho
    have := (h.at ho).2.le
    exact this
  · exact Nat.le_refl _
theorem Ch.pos {ws : List Int} {os : List RO} {i T q : Nat} {o : RO} (h : Ch ws i os T) (hq : os[q]? = some o) : posAt os T (q + 1) = o.i + 1 + o.ws.length := by
  have h2 := (h.at hq).2.2.2.2.2.pos0
  rw [← h2]
  unfold posAt
  rw [List.getElem?_drop]
section starts
variable {n T : Nat} {ws : List Int} {st : List Bool}
theorem Ch.start (h : HT n T ws st) : ∀ {os : List RO} {i : Nat}, Ch ws i os T → (i = T ∨ st[i]? = some true) → ∀ o ∈ os, st[o.i]? = some true
  | [], i, _, _ => fun o ho => by cases ho
  | o :: r, i, ⟨h1, h2, h3, h4, h5⟩, hi => by
    have hle := h5.le
    have hs : st[i]? = some true := by
      rcases hi with e | e
      · omega
      · exact e
    obtain ⟨w, b1, b2, b3, b4, b5⟩ := h.obj i hs
    rw [h3] at b1; injection b1 with b1; subst b1
    rw [(packI_un h2).2.2.2.1, Int.toNat_natCast] at b4
    intro o' ho
    rcases List.mem_cons.1 ho with rfl | ho
    · rw [h1]; exact hs
    · exact Ch.start h h5 b4 o' ho
theorem Ch.find (h : HT n T ws st) : ∀ {os : List RO} {i : Nat}, Ch ws i os T → (i = T ∨ st[i]? = some true) → ∀ q, i ≤ q → st[q]? = some true → ∃ o ∈ os, o.i = q
  | [], i, hc, _ => fun q hq hs => by
    have := h.lt hs
    have : i = T := hc
    omega
  | o :: r, i, ⟨h1, h2, h3, h4, h5⟩, hi => fun q hq hs => by
    have hle := h5.le
    have hsi : st[i]? = some true := by
      rcases hi with e | e
      · omega
      · exact e
    obtain ⟨w, b1, b2, b3, b4, b5⟩ := h.obj i hsi
    rw [h3] at b1; injection b1 with b1; subst b1
    rw [(packI_un h2).2.2.2.1, Int.toNat_natCast] at b4 b5
    by_cases e : q = i
    · exact ⟨o, .head _, by omega⟩
    · by_cases e2 : q < i + 1 + o.ws.length
      · exact absurd hs (b5 q (by omega) e2)
      · obtain ⟨o', ho', e'⟩ := Ch.find h h5 b4 q (by omega) hs
        exact ⟨o', .tail _ ho', e'⟩
theorem findR_some {os : List RO} {x : Int} {j : Nat} {o : RO} (h : HT n T ws st) (hc : Ch ws 0 os T) (hj : os[j]? = some o) : isObj st o.i ∧ ws[o.i]? = some (packI o.k o.ws.length o.p) ∧ goodB o.k o.ws.length o.p = true ∧ o.i + 1 + o.ws.length ≤ T ∧ ∀ q : Nat, q < o.ws.length → ws[o.i + 1 + q]? = o.ws[q]? := by
  have h2 := (hc.at hj).2
  exact ⟨⟨by omega, by rw [Int.toNat_natCast]; exact Ch.start h hc (h.zero.imp (fun e => e.symm) id) o (List.mem_of_getElem? hj)⟩, h2.2.2.1, h2.2.1, h2.2.2.2.2.le, h2.2.2.2.1⟩
theorem findR_none {os : List RO} {x : Int} (h : HT n T ws st) (hc : Ch ws 0 os T) (hx : ∀ o ∈ os, (o.i : Int) ≠ x) : ¬ isObj st x := by
  rintro ⟨h0, hs⟩
  obtain ⟨o, ho, e⟩ := Ch.find h hc (h.zero.imp (fun e => e.symm) id) _ (Nat.zero_le _) hs
  exact hx o ho (by omega)
end starts
section ops
variable {a : Option Addr} {cap : Nat} {os : List RO}
set_option maxHeartbeats 4000000 in
theorem Find_spec (size x : Int) (hb : os.length ≤ 65536) : Does Try.prog 45 [refV size a os.length cap, .int .i64 x] (refL a cap os)
    (fun v l => ∃ r : Int, findR os x r ∧ v = .int .i64 r ∧ l = refL a cap os) := by
  refine Does.of tiok Try.func45 (by kernel_rfl) rfl Try.ntmps45 rfl ?_
  intro W fr
  refine J_rowzf P0 ?_
  rintro ⟨hl, hn, hc⟩
  have hR : Reads (objsZ a cap os) 5 os.length a cap (os.flatMap cellsO) := Reads.rowz hl hn
  repeat' (first | (refine IsO ?_; first | refine JO_nil ?_ | (refine IsG ?_; first | refine G1 rfl rfl ?_ | refine G2 rfl ?_) | (refine IsMove ?_; first | refine M1 rfl rfl rfl ?_ | refine M2 rfl rfl rfl ?_ | refine M3 rfl rfl rfl ?_ | refine M4 rfl rfl rfl ?_ | refine M5 rfl rfl rfl (fun _ => ?_) (fun _ => ?_) | refine M6 rfl rfl rfl (fun _ => ?_) (fun _ => ?_)) | (refine IsBin ?_; first | refine B1 rfl rfl rfl rfl ?_ | refine B2 rfl rfl rfl rfl ?_ | refine B3 rfl rfl rfl rfl ?_ | refine B4 rfl rfl rfl rfl ?_ | refine B5 rfl rfl rfl rfl ?_ | refine B6 rfl rfl rfl rfl ?_ | refine B7 rfl rfl rfl rfl rfl ?_ | refine B8 rfl rfl rfl rfl rfl ?_ | refine B9 rfl rfl rfl rfl rfl rfl rfl ?_ | refine BA rfl rfl rfl rfl rfl rfl rfl ?_) | (refine IsConv ?_; refine C1 rfl rfl rfl rfl rfl ?_) | (refine IsLoad ?_; first | refine L1 rfl rfl rfl rfl ?_ | refine L2 rfl rfl rfl rfl rfl ?_) | (refine IsStore ?_; refine S1 rfl rfl rfl rfl rfl rfl rfl (fun _ => ?_)) | (refine IsBox ?_; refine N1 rfl rfl rfl rfl (fun _ => ?_)) | (refine IsAlloc ?_; refine N2 rfl rfl rfl rfl (fun _ => ?_)) | (refine IsBuild ?_; refine U1 rfl rfl rfl rfl rfl rfl ?_) | refine V1 rfl rfl rfl ?_) | (refine IsAt ?_; first | (with_reducible first | refine T1 ?_ | refine T2 ?_ | refine T3 ?_ | refine T4 ?_ | refine T5 ?_ | refine T6 ?_ | refine T7 ?_ | refine T8 ?_ | refine T9 ?_ | refine TA ?_ | refine TB ?_ | refine TC ?_) | ((with_reducible show At _ (PBlock _ _ (Exit.exit _)) _ _); first | refine At_block_hit ?_ | refine At_block_miss rfl ?_)) | (refine IsJ ?_; first | refine J_seq ?_ | refine J_region ?_ | refine J_block ?_ | refine J_skip ?_ | refine J_ret ?_ | refine J_exit ?_ | (refine IsCond ?_; first | refine J_cond_t rfl ?_ | refine J_cond_f rfl ?_ | refine K1 rfl ?_ | refine K2 rfl ?_ | refine K3 rfl ?_ | refine K4 rfl ?_ | refine J_cb rfl (fun _ => ?_) (fun _ => ?_) | refine J_nb rfl (fun _ => ?_) (fun _ => ?_))))
  rename_i bx
  refine J_loop (α := Nat) (fun q => q ≤ os.length ∧ ∀ (j : Nat) (o : RO), j < q → os[j]? = some o → (o.i : Int) ≠ x)
    (fun q => [(1, .int .i64 x), (2, ptr bx 0), (8, .int .i64 os.length), (9, .int .i64 q)])
    (fun q => blk bx [.int .i64 size, .slice a os.length cap] 33 :: refL a cap os) (fun q => os.length - q) 0 ⟨Nat.zero_le _, fun j o hj => absurd hj (Nat.not_lt_zero _)⟩ (by repeat (first | exact True.intro | refine And.intro rfl ?_)) (fun H hl => hl) ?_
  rintro q ⟨hq, hI⟩
  repeat' (first | (refine IsO ?_; first | refine JO_nil ?_ | (refine IsG ?_; first | refine G1 rfl rfl ?_ | refine G2 rfl ?_) | (refine IsMove ?_; first | refine M1 rfl rfl rfl ?_ | refine M2 rfl rfl rfl ?_ | refine M3 rfl rfl rfl ?_ | refine M4 rfl rfl rfl ?_ | refine M5 rfl rfl rfl (fun _ => ?_) (fun _ => ?_) | refine M6 rfl rfl rfl (fun _ => ?_) (fun _ => ?_)) | (refine IsBin ?_; first | refine B1 rfl rfl rfl rfl ?_ | refine B2 rfl rfl rfl rfl ?_ | refine B3 rfl rfl rfl rfl ?_ | refine B4 rfl rfl rfl rfl ?_ | refine B5 rfl rfl rfl rfl ?_ | refine B6 rfl rfl rfl rfl ?_ | refine B7 rfl rfl rfl rfl rfl ?_ | refine B8 rfl rfl rfl rfl rfl ?_ | refine B9 rfl rfl rfl rfl rfl rfl rfl ?_ | refine BA rfl rfl rfl rfl rfl rfl rfl ?_) | (refine IsConv ?_; refine C1 rfl rfl rfl rfl rfl ?_) | (refine IsLoad ?_; first | refine L1 rfl rfl rfl rfl ?_ | refine L2 rfl rfl rfl rfl rfl ?_) | (refine IsStore ?_; refine S1 rfl rfl rfl rfl rfl rfl rfl (fun _ => ?_)) | (refine IsBox ?_; refine N1 rfl rfl rfl rfl (fun _ => ?_)) | (refine IsAlloc ?_; refine N2 rfl rfl rfl rfl (fun _ => ?_)) | (refine IsBuild ?_; refine U1 rfl rfl rfl rfl rfl rfl ?_) | refine V1 rfl rfl rfl ?_) | (refine IsAt ?_; first | (with_reducible first | refine T1 ?_ | refine T2 ?_ | refine T3 ?_ | refine T4 ?_ | refine T5 ?_ | refine T6 ?_ | refine T7 ?_ | refine T8 ?_ | refine T9 ?_ | refine TA ?_ | refine TB ?_ | refine TC ?_) | ((with_reducible show At _ (PBlock _ _ (Exit.exit _)) _ _); first | refine At_block_hit ?_ | refine At_block_miss rfl ?_)) | (refine IsJ ?_; first | refine J_seq ?_ | refine J_region ?_ | refine J_block ?_ | refine J_skip ?_ | refine J_ret ?_ | refine J_exit ?_ | (refine IsCond ?_; first | refine J_cond_t rfl ?_ | refine J_cond_f rfl ?_ | refine K1 rfl ?_ | refine K2 rfl ?_ | refine K3 rfl ?_ | refine K4 rfl ?_ | refine J_cb rfl (fun _ => ?_) (fun _ => ?_) | refine J_nb rfl (fun _ => ?_) (fun _ => ?_))))
  · rename_i hlt
    have hlt' : q < os.length := by omega
    obtain ⟨o, ho⟩ : ∃ o, os[q]? = some o := ⟨os[q], List.getElem?_eq_getElem _⟩
    refine JO_fact _ (fun w hs => hR.some (by omega) hs (.tail _ (.head _))) ?_
    rintro ⟨b, of, rfl⟩
    refine JO_val (OV_idx (off := of + q * 5) rfl rfl rfl rfl (by omega) (by omega) (by simp)) rfl rfl ?_
    repeat' (first | (refine IsO ?_; first | refine JO_nil ?_ | (refine IsG ?_; first | refine G1 rfl rfl ?_ | refine G2 rfl ?_) | (refine IsMove ?_; first | refine M1 rfl rfl rfl ?_ | refine M2 rfl rfl rfl ?_ | refine M3 rfl rfl rfl ?_ | refine M4 rfl rfl rfl ?_ | refine M5 rfl rfl rfl (fun _ => ?_) (fun _ => ?_) | refine M6 rfl rfl rfl (fun _ => ?_) (fun _ => ?_)) | (refine IsBin ?_; first | refine B1 rfl rfl rfl rfl ?_ | refine B2 rfl rfl rfl rfl ?_ | refine B3 rfl rfl rfl rfl ?_ | refine B4 rfl rfl rfl rfl ?_ | refine B5 rfl rfl rfl rfl ?_ | refine B6 rfl rfl rfl rfl ?_ | refine B7 rfl rfl rfl rfl rfl ?_ | refine B8 rfl rfl rfl rfl rfl ?_ | refine B9 rfl rfl rfl rfl rfl rfl rfl ?_ | refine BA rfl rfl rfl rfl rfl rfl rfl ?_) | (refine IsConv ?_; refine C1 rfl rfl rfl rfl rfl ?_) | (refine IsLoad ?_; first | refine L1 rfl rfl rfl rfl ?_ | refine L2 rfl rfl rfl rfl rfl ?_) | (refine IsStore ?_; refine S1 rfl rfl rfl rfl rfl rfl rfl (fun _ => ?_)) | (refine IsBox ?_; refine N1 rfl rfl rfl rfl (fun _ => ?_)) | (refine IsAlloc ?_; refine N2 rfl rfl rfl rfl (fun _ => ?_)) | (refine IsBuild ?_; refine U1 rfl rfl rfl rfl rfl rfl ?_) | refine V1 rfl rfl rfl ?_) | (refine IsAt ?_; first | (with_reducible first | refine T1 ?_ | refine T2 ?_ | refine T3 ?_ | refine T4 ?_ | refine T5 ?_ | refine T6 ?_ | refine T7 ?_ | refine T8 ?_ | refine T9 ?_ | refine TA ?_ | refine TB ?_ | refine TC ?_) | ((with_reducible show At _ (PBlock _ _ (Exit.exit _)) _ _); first | refine At_block_hit ?_ | refine At_block_miss rfl ?_)) | (refine IsJ ?_; first | refine J_seq ?_ | refine J_region ?_ | refine J_block ?_ | refine J_skip ?_ | refine J_ret ?_ | refine J_exit ?_ | (refine IsCond ?_; first | refine J_cond_t rfl ?_ | refine J_cond_f rfl ?_ | refine K1 rfl ?_ | refine K2 rfl ?_ | refine K3 rfl ?_ | refine K4 rfl ?_ | refine J_cb rfl (fun _ => ?_) (fun _ => ?_) | refine J_nb rfl (fun _ => ?_) (fun _ => ?_))))
    refine JO_q (OQ_read (i := q * 5 + 0) (v := .int .i64 o.i) hR (.tail _ (.head _)) rfl rfl (by omega) (by rw [objs_get ho (by omega)]; rfl)) rfl rfl ?_
    repeat' (first | (refine IsO ?_; first | refine JO_nil ?_ | (refine IsG ?_; first | refine G1 rfl rfl ?_ | refine G2 rfl ?_) | (refine IsMove ?_; first | refine M1 rfl rfl rfl ?_ | refine M2 rfl rfl rfl ?_ | refine M3 rfl rfl rfl ?_ | refine M4 rfl rfl rfl ?_ | refine M5 rfl rfl rfl (fun _ => ?_) (fun _ => ?_) | refine M6 rfl rfl rfl (fun _ => ?_) (fun _ => ?_)) | (refine IsBin ?_; first | refine B1 rfl rfl rfl rfl ?_ | refine B2 rfl rfl rfl rfl ?_ | refine B3 rfl rfl rfl rfl ?_ | refine B4 rfl rfl rfl rfl ?_ | refine B5 rfl rfl rfl rfl ?_ | refine B6 rfl rfl rfl rfl ?_ | refine B7 rfl rfl rfl rfl rfl ?_ | refine B8 rfl rfl rfl rfl rfl ?_ | refine B9 rfl rfl rfl rfl rfl rfl rfl ?_ | refine BA rfl rfl rfl rfl rfl rfl rfl ?_) | (refine IsConv ?_; refine C1 rfl rfl rfl rfl rfl ?_) | (refine IsLoad ?_; first | refine L1 rfl rfl rfl rfl ?_ | refine L2 rfl rfl rfl rfl rfl ?_) | (refine IsStore ?_; refine S1 rfl rfl rfl rfl rfl rfl rfl (fun _ => ?_)) | (refine IsBox ?_; refine N1 rfl rfl rfl rfl (fun _ => ?_)) | (refine IsAlloc ?_; refine N2 rfl rfl rfl rfl (fun _ => ?_)) | (refine IsBuild ?_; refine U1 rfl rfl rfl rfl rfl rfl ?_) | refine V1 rfl rfl rfl ?_) | (refine IsAt ?_; first | (with_reducible first | refine T1 ?_ | refine T2 ?_ | refine T3 ?_ | refine T4 ?_ | refine T5 ?_ | refine T6 ?_ | refine T7 ?_ | refine T8 ?_ | refine T9 ?_ | refine TA ?_ | refine TB ?_ | refine TC ?_) | ((with_reducible show At _ (PBlock _ _ (Exit.exit _)) _ _); first | refine At_block_hit ?_ | refine At_block_miss rfl ?_)) | (refine IsJ ?_; first | refine J_seq ?_ | refine J_region ?_ | refine J_block ?_ | refine J_skip ?_ | refine J_ret ?_ | refine J_exit ?_ | (refine IsCond ?_; first | refine J_cond_t rfl ?_ | refine J_cond_f rfl ?_ | refine K1 rfl ?_ | refine K2 rfl ?_ | refine K3 rfl ?_ | refine K4 rfl ?_ | refine J_cb rfl (fun _ => ?_) (fun _ => ?_) | refine J_nb rfl (fun _ => ?_) (fun _ => ?_))))
    · rename_i he
      exact At_ret rfl rfl (.tmp rfl .nil) rfl (is := [1, 1]) rfl ⟨q, .inl ⟨q, o, rfl, ho, by omega⟩, rfl, rfl⟩
    · rename_i he
      refine At_round (q + 1) (by show os.length - (q + 1) < os.length - q; omega) ⟨by omega, fun j o' hj hj2 => ?_⟩ (by repeat (first | exact True.intro | refine And.intro rfl ?_)) (fun H hl => hl)
      by_cases e : j = q
      · subst e
        rw [ho] at hj2; injection hj2 with hj2; subst hj2
        omega
      · exact hI j o' (by omega) hj2
  · have hqq : q = os.length := by omega
    subst hqq
    refine At_ret rfl rfl (.tmp rfl .nil) rfl (is := [1, 1]) rfl ⟨-1, .inr ⟨rfl, fun o ho => ?_⟩, rfl, rfl⟩
    obtain ⟨j, hj⟩ := List.getElem?_of_mem ho
    exact hI j o (List.getElem?_eq_some_iff.1 hj).1 hj
set_option maxHeartbeats 4000000 in
theorem Top_spec {ws : List Int} {T : Nat} (size : Int) (h : Ch ws 0 os T) (hT : T ≤ 65536) : Does Try.prog 58 [refV size a os.length cap] (refL a cap os)
    (fun v l => v = .int .i64 T ∧ l = refL a cap os) := by
  have hlen := h.len
  refine Does.of tiok Try.func58 (by kernel_rfl) rfl Try.ntmps58 rfl ?_
  intro W fr
  refine J_rowzf P0 ?_
  rintro ⟨hl, hn, hc⟩
  have hR : Reads (objsZ a cap os) 5 os.length a cap (os.flatMap cellsO) := Reads.rowz hl hn
  repeat' (first | (refine IsO ?_; first | refine JO_nil ?_ | (refine IsG ?_; first | refine G1 rfl rfl ?_ | refine G2 rfl ?_) | (refine IsMove ?_; first | refine M1 rfl rfl rfl ?_ | refine M2 rfl rfl rfl ?_ | refine M3 rfl rfl rfl ?_ | refine M4 rfl rfl rfl ?_ | refine M5 rfl rfl rfl (fun _ => ?_) (fun _ => ?_) | refine M6 rfl rfl rfl (fun _ => ?_) (fun _ => ?_)) | (refine IsBin ?_; first | refine B1 rfl rfl rfl rfl ?_ | refine B2 rfl rfl rfl rfl ?_ | refine B3 rfl rfl rfl rfl ?_ | refine B4 rfl rfl rfl rfl ?_ | refine B5 rfl rfl rfl rfl ?_ | refine B6 rfl rfl rfl rfl ?_ | refine B7 rfl rfl rfl rfl rfl ?_ | refine B8 rfl rfl rfl rfl rfl ?_ | refine B9 rfl rfl rfl rfl rfl rfl rfl ?_ | refine BA rfl rfl rfl rfl rfl rfl rfl ?_) | (refine IsConv ?_; refine C1 rfl rfl rfl rfl rfl ?_) | (refine IsLoad ?_; first | refine L1 rfl rfl rfl rfl ?_ | refine L2 rfl rfl rfl rfl rfl ?_) | (refine IsStore ?_; refine S1 rfl rfl rfl rfl rfl rfl rfl (fun _ => ?_)) | (refine IsBox ?_; refine N1 rfl rfl rfl rfl (fun _ => ?_)) | (refine IsAlloc ?_; refine N2 rfl rfl rfl rfl (fun _ => ?_)) | (refine IsBuild ?_; refine U1 rfl rfl rfl rfl rfl rfl ?_) | refine V1 rfl rfl rfl ?_) | (refine IsAt ?_; first | (with_reducible first | refine T1 ?_ | refine T2 ?_ | refine T3 ?_ | refine T4 ?_ | refine T5 ?_ | refine T6 ?_ | refine T7 ?_ | refine T8 ?_ | refine T9 ?_ | refine TA ?_ | refine TB ?_ | refine TC ?_) | ((with_reducible show At _ (PBlock _ _ (Exit.exit _)) _ _); first | refine At_block_hit ?_ | refine At_block_miss rfl ?_)) | (refine IsJ ?_; first | refine J_seq ?_ | refine J_region ?_ | refine J_block ?_ | refine J_skip ?_ | refine J_ret ?_ | refine J_exit ?_ | (refine IsCond ?_; first | refine J_cond_t rfl ?_ | refine J_cond_f rfl ?_ | refine K1 rfl ?_ | refine K2 rfl ?_ | refine K3 rfl ?_ | refine K4 rfl ?_ | refine J_cb rfl (fun _ => ?_) (fun _ => ?_) | refine J_nb rfl (fun _ => ?_) (fun _ => ?_))))
  rename_i bx
  refine J_loop (α := Nat) (fun q => q ≤ os.length)
    (fun q => [(1, ptr bx 0), (3, .int .i64 (posAt os T q)), (7, .int .i64 os.length), (8, .int .i64 q)])
    (fun q => blk bx [.int .i64 size, .slice a os.length cap] 33 :: refL a cap os) (fun q => os.length - q) 0 (Nat.zero_le _) ?_ (fun H hl => hl) ?_
  · rw [h.pos0]; exact (by repeat (first | exact True.intro | refine And.intro rfl ?_))
  intro q hq
  have hpb := h.pos_le q
  repeat' (first | (refine IsO ?_; first | refine JO_nil ?_ | (refine IsG ?_; first | refine G1 rfl rfl ?_ | refine G2 rfl ?_) | (refine IsMove ?_; first | refine M1 rfl rfl rfl ?_ | refine M2 rfl rfl rfl ?_ | refine M3 rfl rfl rfl ?_ | refine M4 rfl rfl rfl ?_ | refine M5 rfl rfl rfl (fun _ => ?_) (fun _ => ?_) | refine M6 rfl rfl rfl (fun _ => ?_) (fun _ => ?_)) | (refine IsBin ?_; first | refine B1 rfl rfl rfl rfl ?_ | refine B2 rfl rfl rfl rfl ?_ | refine B3 rfl rfl rfl rfl ?_ | refine B4 rfl rfl rfl rfl ?_ | refine B5 rfl rfl rfl rfl ?_ | refine B6 rfl rfl rfl rfl ?_ | refine B7 rfl rfl rfl rfl rfl ?_ | refine B8 rfl rfl rfl rfl rfl ?_ | refine B9 rfl rfl rfl rfl rfl rfl rfl ?_ | refine BA rfl rfl rfl rfl rfl rfl rfl ?_) | (refine IsConv ?_; refine C1 rfl rfl rfl rfl rfl ?_) | (refine IsLoad ?_; first | refine L1 rfl rfl rfl rfl ?_ | refine L2 rfl rfl rfl rfl rfl ?_) | (refine IsStore ?_; refine S1 rfl rfl rfl rfl rfl rfl rfl (fun _ => ?_)) | (refine IsBox ?_; refine N1 rfl rfl rfl rfl (fun _ => ?_)) | (refine IsAlloc ?_; refine N2 rfl rfl rfl rfl (fun _ => ?_)) | (refine IsBuild ?_; refine U1 rfl rfl rfl rfl rfl rfl ?_) | refine V1 rfl rfl rfl ?_) | (refine IsAt ?_; first | (with_reducible first | refine T1 ?_ | refine T2 ?_ | refine T3 ?_ | refine T4 ?_ | refine T5 ?_ | refine T6 ?_ | refine T7 ?_ | refine T8 ?_ | refine T9 ?_ | refine TA ?_ | refine TB ?_ | refine TC ?_) | ((with_reducible show At _ (PBlock _ _ (Exit.exit _)) _ _); first | refine At_block_hit ?_ | refine At_block_miss rfl ?_)) | (refine IsJ ?_; first | refine J_seq ?_ | refine J_region ?_ | refine J_block ?_ | refine J_skip ?_ | refine J_ret ?_ | refine J_exit ?_ | (refine IsCond ?_; first | refine J_cond_t rfl ?_ | refine J_cond_f rfl ?_ | refine K1 rfl ?_ | refine K2 rfl ?_ | refine K3 rfl ?_ | refine K4 rfl ?_ | refine J_cb rfl (fun _ => ?_) (fun _ => ?_) | refine J_nb rfl (fun _ => ?_) (fun _ => ?_))))
  · rename_i hlt
    have hlt' : q < os.length := by omega
    obtain ⟨o, ho⟩ : ∃ o, os[q]? = some o := ⟨os[q], List.getElem?_eq_getElem _⟩
    have hp := posAt_of (T := T) ho
    have hp2 := h.pos ho
    have hle : o.i + 1 + o.ws.length ≤ T := (h.at ho).2.2.2.2.2.le
    refine JO_fact _ (fun w hs => hR.some (by omega) hs (.tail _ (.head _))) ?_
    rintro ⟨b, of, rfl⟩
    refine JO_val (OV_idx (off := of + q * 5) rfl rfl rfl rfl (by omega) (by omega) (by simp)) rfl rfl ?_
    repeat' (first | (refine IsO ?_; first | refine JO_nil ?_ | (refine IsG ?_; first | refine G1 rfl rfl ?_ | refine G2 rfl ?_) | (refine IsMove ?_; first | refine M1 rfl rfl rfl ?_ | refine M2 rfl rfl rfl ?_ | refine M3 rfl rfl rfl ?_ | refine M4 rfl rfl rfl ?_ | refine M5 rfl rfl rfl (fun _ => ?_) (fun _ => ?_) | refine M6 rfl rfl rfl (fun _ => ?_) (fun _ => ?_)) | (refine IsBin ?_; first | refine B1 rfl rfl rfl rfl ?_ | refine B2 rfl rfl rfl rfl ?_ | refine B3 rfl rfl rfl rfl ?_ | refine B4 rfl rfl rfl rfl ?_ | refine B5 rfl rfl rfl rfl ?_ | refine B6 rfl rfl rfl rfl ?_ | refine B7 rfl rfl rfl rfl rfl ?_ | refine B8 rfl rfl rfl rfl rfl ?_ | refine B9 rfl rfl rfl rfl rfl rfl rfl ?_ | refine BA rfl rfl rfl rfl rfl rfl rfl ?_) | (refine IsConv ?_; refine C1 rfl rfl rfl rfl rfl ?_) | (refine IsLoad ?_; first | refine L1 rfl rfl rfl rfl ?_ | refine L2 rfl rfl rfl rfl rfl ?_) | (refine IsStore ?_; refine S1 rfl rfl rfl rfl rfl rfl rfl (fun _ => ?_)) | (refine IsBox ?_; refine N1 rfl rfl rfl rfl (fun _ => ?_)) | (refine IsAlloc ?_; refine N2 rfl rfl rfl rfl (fun _ => ?_)) | (refine IsBuild ?_; refine U1 rfl rfl rfl rfl rfl rfl ?_) | refine V1 rfl rfl rfl ?_) | (refine IsAt ?_; first | (with_reducible first | refine T1 ?_ | refine T2 ?_ | refine T3 ?_ | refine T4 ?_ | refine T5 ?_ | refine T6 ?_ | refine T7 ?_ | refine T8 ?_ | refine T9 ?_ | refine TA ?_ | refine TB ?_ | refine TC ?_) | ((with_reducible show At _ (PBlock _ _ (Exit.exit _)) _ _); first | refine At_block_hit ?_ | refine At_block_miss rfl ?_)) | (refine IsJ ?_; first | refine J_seq ?_ | refine J_region ?_ | refine J_block ?_ | refine J_skip ?_ | refine J_ret ?_ | refine J_exit ?_ | (refine IsCond ?_; first | refine J_cond_t rfl ?_ | refine J_cond_f rfl ?_ | refine K1 rfl ?_ | refine K2 rfl ?_ | refine K3 rfl ?_ | refine K4 rfl ?_ | refine J_cb rfl (fun _ => ?_) (fun _ => ?_) | refine J_nb rfl (fun _ => ?_) (fun _ => ?_))))
    refine JO_q (OQ_read (i := q * 5 + 2) (v := .int .i64 o.ws.length) hR (.tail _ (.head _)) rfl rfl (by omega) (by rw [objs_get ho (by omega)]; rfl)) rfl rfl ?_
    repeat' (first | (refine IsO ?_; first | refine JO_nil ?_ | (refine IsG ?_; first | refine G1 rfl rfl ?_ | refine G2 rfl ?_) | (refine IsMove ?_; first | refine M1 rfl rfl rfl ?_ | refine M2 rfl rfl rfl ?_ | refine M3 rfl rfl rfl ?_ | refine M4 rfl rfl rfl ?_ | refine M5 rfl rfl rfl (fun _ => ?_) (fun _ => ?_) | refine M6 rfl rfl rfl (fun _ => ?_) (fun _ => ?_)) | (refine IsBin ?_; first | refine B1 rfl rfl rfl rfl ?_ | refine B2 rfl rfl rfl rfl ?_ | refine B3 rfl rfl rfl rfl ?_ | refine B4 rfl rfl rfl rfl ?_ | refine B5 rfl rfl rfl rfl ?_ | refine B6 rfl rfl rfl rfl ?_ | refine B7 rfl rfl rfl rfl rfl ?_ | refine B8 rfl rfl rfl rfl rfl ?_ | refine B9 rfl rfl rfl rfl rfl rfl rfl ?_ | refine BA rfl rfl rfl rfl rfl rfl rfl ?_) | (refine IsConv ?_; refine C1 rfl rfl rfl rfl rfl ?_) | (refine IsLoad ?_; first | refine L1 rfl rfl rfl rfl ?_ | refine L2 rfl rfl rfl rfl rfl ?_) | (refine IsStore ?_; refine S1 rfl rfl rfl rfl rfl rfl rfl (fun _ => ?_)) | (refine IsBox ?_; refine N1 rfl rfl rfl rfl (fun _ => ?_)) | (refine IsAlloc ?_; refine N2 rfl rfl rfl rfl (fun _ => ?_)) | (refine IsBuild ?_; refine U1 rfl rfl rfl rfl rfl rfl ?_) | refine V1 rfl rfl rfl ?_) | (refine IsAt ?_; first | (with_reducible first | refine T1 ?_ | refine T2 ?_ | refine T3 ?_ | refine T4 ?_ | refine T5 ?_ | refine T6 ?_ | refine T7 ?_ | refine T8 ?_ | refine T9 ?_ | refine TA ?_ | refine TB ?_ | refine TC ?_) | ((with_reducible show At _ (PBlock _ _ (Exit.exit _)) _ _); first | refine At_block_hit ?_ | refine At_block_miss rfl ?_)) | (refine IsJ ?_; first | refine J_seq ?_ | refine J_region ?_ | refine J_block ?_ | refine J_skip ?_ | refine J_ret ?_ | refine J_exit ?_ | (refine IsCond ?_; first | refine J_cond_t rfl ?_ | refine J_cond_f rfl ?_ | refine K1 rfl ?_ | refine K2 rfl ?_ | refine K3 rfl ?_ | refine K4 rfl ?_ | refine J_cb rfl (fun _ => ?_) (fun _ => ?_) | refine J_nb rfl (fun _ => ?_) (fun _ => ?_))))
    refine At_round (q + 1) (by show os.length - (q + 1) < os.length - q; omega) (show q + 1 ≤ os.length by omega) ?_ (fun H hl => hl)
    rw [hp2, show ((o.i + 1 + o.ws.length : Nat) : Int) = (posAt os T q : Int) + 1 + o.ws.length by omega]
    exact (by repeat (first | exact True.intro | refine And.intro rfl ?_))
  · have hqq : q = os.length := by omega
    subst hqq
    exact At_ret rfl rfl (.tmp rfl .nil) rfl (is := [1, 1]) rfl ⟨by rw [posAt_end]; rfl, rfl⟩
set_option maxHeartbeats 4000000 in
theorem Leads_spec {n T : Nat} {ws : List Int} {st : List Bool} (size x : Int) (h : HT n T ws st) (hc : Ch ws 0 os T) (hx : In64 x) : Does Try.prog 61 [refV size a os.length cap, .int .i64 x] (refL a cap os)
    (fun v l => v = .bool (leadsB ws st x) ∧ l = refL a cap os) := by
  have hlen := hc.len
  have htn := h.tn
  have hnb := h.nb
  obtain ⟨hx1, hx2⟩ := hx
  refine Does.of tiok Try.func61 (by kernel_rfl) rfl Try.ntmps61 rfl ?_
  intro W fr
  refine J_rowzf P0 ?_
  rintro ⟨hl, hn, hcc⟩
  have hR : Reads (objsZ a cap os) 5 os.length a cap (os.flatMap cellsO) := Reads.rowz hl hn
  repeat' (first | (refine IsO ?_; first | refine JO_nil ?_ | (refine IsG ?_; first | refine G1 rfl rfl ?_ | refine G2 rfl ?_) | (refine IsMove ?_; first | refine M1 rfl rfl rfl ?_ | refine M2 rfl rfl rfl ?_ | refine M3 rfl rfl rfl ?_ | refine M4 rfl rfl rfl ?_ | refine M5 rfl rfl rfl (fun _ => ?_) (fun _ => ?_) | refine M6 rfl rfl rfl (fun _ => ?_) (fun _ => ?_)) | (refine IsBin ?_; first | refine B1 rfl rfl rfl rfl ?_ | refine B2 rfl rfl rfl rfl ?_ | refine B3 rfl rfl rfl rfl ?_ | refine B4 rfl rfl rfl rfl ?_ | refine B5 rfl rfl rfl rfl ?_ | refine B6 rfl rfl rfl rfl ?_ | refine B7 rfl rfl rfl rfl rfl ?_ | refine B8 rfl rfl rfl rfl rfl ?_ | refine B9 rfl rfl rfl rfl rfl rfl rfl ?_ | refine BA rfl rfl rfl rfl rfl rfl rfl ?_) | (refine IsConv ?_; refine C1 rfl rfl rfl rfl rfl ?_) | (refine IsLoad ?_; first | refine L1 rfl rfl rfl rfl ?_ | refine L2 rfl rfl rfl rfl rfl ?_) | (refine IsStore ?_; refine S1 rfl rfl rfl rfl rfl rfl rfl (fun _ => ?_)) | (refine IsBox ?_; refine N1 rfl rfl rfl rfl (fun _ => ?_)) | (refine IsAlloc ?_; refine N2 rfl rfl rfl rfl (fun _ => ?_)) | (refine IsBuild ?_; refine U1 rfl rfl rfl rfl rfl rfl ?_) | refine V1 rfl rfl rfl ?_) | (refine IsAt ?_; first | (with_reducible first | refine T1 ?_ | refine T2 ?_ | refine T3 ?_ | refine T4 ?_ | refine T5 ?_ | refine T6 ?_ | refine T7 ?_ | refine T8 ?_ | refine T9 ?_ | refine TA ?_ | refine TB ?_ | refine TC ?_) | ((with_reducible show At _ (PBlock _ _ (Exit.exit _)) _ _); first | refine At_block_hit ?_ | refine At_block_miss rfl ?_)) | (refine IsJ ?_; first | refine J_seq ?_ | refine J_region ?_ | refine J_block ?_ | refine J_skip ?_ | refine J_ret ?_ | refine J_exit ?_ | (refine IsCond ?_; first | refine J_cond_t rfl ?_ | refine J_cond_f rfl ?_ | refine K1 rfl ?_ | refine K2 rfl ?_ | refine K3 rfl ?_ | refine K4 rfl ?_ | refine J_cb rfl (fun _ => ?_) (fun _ => ?_) | refine J_nb rfl (fun _ => ?_) (fun _ => ?_))))
  · rename_i bx hle
    refine At_ret rfl rfl (.tmp rfl .nil) rfl (is := [1, 1]) rfl ⟨?_, rfl⟩
    refine congrArg Value.bool ?_
    unfold leadsB
    exact decide_eq_decide.2 (by omega)
  · rename_i bx hle
    refine JO_l (OL_call [1, 1] rfl rfl rfl (Find_spec _ _ (by omega)) rfl) rfl rfl ?_; rintro _ _ ⟨_, ⟨r, hr, rfl, rfl⟩, rfl⟩
    rcases hr with ⟨j, o, rfl, hj, hi⟩ | ⟨rfl, hno⟩
    · obtain ⟨⟨_, k1⟩, k2, k3, k4, k5⟩ := findR_some (x := x) h hc hj
      have hjl : j < os.length := (List.getElem?_eq_some_iff.1 hj).1
      repeat' (first | (refine IsO ?_; first | refine JO_nil ?_ | (refine IsG ?_; first | refine G1 rfl rfl ?_ | refine G2 rfl ?_) | (refine IsMove ?_; first | refine M1 rfl rfl rfl ?_ | refine M2 rfl rfl rfl ?_ | refine M3 rfl rfl rfl ?_ | refine M4 rfl rfl rfl ?_ | refine M5 rfl rfl rfl (fun _ => ?_) (fun _ => ?_) | refine M6 rfl rfl rfl (fun _ => ?_) (fun _ => ?_)) | (refine IsBin ?_; first | refine B1 rfl rfl rfl rfl ?_ | refine B2 rfl rfl rfl rfl ?_ | refine B3 rfl rfl rfl rfl ?_ | refine B4 rfl rfl rfl rfl ?_ | refine B5 rfl rfl rfl rfl ?_ | refine B6 rfl rfl rfl rfl ?_ | refine B7 rfl rfl rfl rfl rfl ?_ | refine B8 rfl rfl rfl rfl rfl ?_ | refine B9 rfl rfl rfl rfl rfl rfl rfl ?_ | refine BA rfl rfl rfl rfl rfl rfl rfl ?_) | (refine IsConv ?_; refine C1 rfl rfl rfl rfl rfl ?_) | (refine IsLoad ?_; first | refine L1 rfl rfl rfl rfl ?_ | refine L2 rfl rfl rfl rfl rfl ?_) | (refine IsStore ?_; refine S1 rfl rfl rfl rfl rfl rfl rfl (fun _ => ?_)) | (refine IsBox ?_; refine N1 rfl rfl rfl rfl (fun _ => ?_)) | (refine IsAlloc ?_; refine N2 rfl rfl rfl rfl (fun _ => ?_)) | (refine IsBuild ?_; refine U1 rfl rfl rfl rfl rfl rfl ?_) | refine V1 rfl rfl rfl ?_) | (refine IsAt ?_; first | (with_reducible first | refine T1 ?_ | refine T2 ?_ | refine T3 ?_ | refine T4 ?_ | refine T5 ?_ | refine T6 ?_ | refine T7 ?_ | refine T8 ?_ | refine T9 ?_ | refine TA ?_ | refine TB ?_ | refine TC ?_) | ((with_reducible show At _ (PBlock _ _ (Exit.exit _)) _ _); first | refine At_block_hit ?_ | refine At_block_miss rfl ?_)) | (refine IsJ ?_; first | refine J_seq ?_ | refine J_region ?_ | refine J_block ?_ | refine J_skip ?_ | refine J_ret ?_ | refine J_exit ?_ | (refine IsCond ?_; first | refine J_cond_t rfl ?_ | refine J_cond_f rfl ?_ | refine K1 rfl ?_ | refine K2 rfl ?_ | refine K3 rfl ?_ | refine K4 rfl ?_ | refine J_cb rfl (fun _ => ?_) (fun _ => ?_) | refine J_nb rfl (fun _ => ?_) (fun _ => ?_))))
      refine JO_fact _ (fun w hs => hR.some (by omega) hs (by repeat (first | exact .head _ | refine .tail _ ?_))) ?_
      rintro ⟨b, of, rfl⟩
      refine JO_val (OV_idx (off := of + j * 5) rfl rfl rfl rfl (by omega) (by omega) (by simp)) rfl rfl ?_
      repeat' (first | (refine IsO ?_; first | refine JO_nil ?_ | (refine IsG ?_; first | refine G1 rfl rfl ?_ | refine G2 rfl ?_) | (refine IsMove ?_; first | refine M1 rfl rfl rfl ?_ | refine M2 rfl rfl rfl ?_ | refine M3 rfl rfl rfl ?_ | refine M4 rfl rfl rfl ?_ | refine M5 rfl rfl rfl (fun _ => ?_) (fun _ => ?_) | refine M6 rfl rfl rfl (fun _ => ?_) (fun _ => ?_)) | (refine IsBin ?_; first | refine B1 rfl rfl rfl rfl ?_ | refine B2 rfl rfl rfl rfl ?_ | refine B3 rfl rfl rfl rfl ?_ | refine B4 rfl rfl rfl rfl ?_ | refine B5 rfl rfl rfl rfl ?_ | refine B6 rfl rfl rfl rfl ?_ | refine B7 rfl rfl rfl rfl rfl ?_ | refine B8 rfl rfl rfl rfl rfl ?_ | refine B9 rfl rfl rfl rfl rfl rfl rfl ?_ | refine BA rfl rfl rfl rfl rfl rfl rfl ?_) | (refine IsConv ?_; refine C1 rfl rfl rfl rfl rfl ?_) | (refine IsLoad ?_; first | refine L1 rfl rfl rfl rfl ?_ | refine L2 rfl rfl rfl rfl rfl ?_) | (refine IsStore ?_; refine S1 rfl rfl rfl rfl rfl rfl rfl (fun _ => ?_)) | (refine IsBox ?_; refine N1 rfl rfl rfl rfl (fun _ => ?_)) | (refine IsAlloc ?_; refine N2 rfl rfl rfl rfl (fun _ => ?_)) | (refine IsBuild ?_; refine U1 rfl rfl rfl rfl rfl rfl ?_) | refine V1 rfl rfl rfl ?_) | (refine IsAt ?_; first | (with_reducible first | refine T1 ?_ | refine T2 ?_ | refine T3 ?_ | refine T4 ?_ | refine T5 ?_ | refine T6 ?_ | refine T7 ?_ | refine T8 ?_ | refine T9 ?_ | refine TA ?_ | refine TB ?_ | refine TC ?_) | ((with_reducible show At _ (PBlock _ _ (Exit.exit _)) _ _); first | refine At_block_hit ?_ | refine At_block_miss rfl ?_)) | (refine IsJ ?_; first | refine J_seq ?_ | refine J_region ?_ | refine J_block ?_ | refine J_skip ?_ | refine J_ret ?_ | refine J_exit ?_ | (refine IsCond ?_; first | refine J_cond_t rfl ?_ | refine J_cond_f rfl ?_ | refine K1 rfl ?_ | refine K2 rfl ?_ | refine K3 rfl ?_ | refine K4 rfl ?_ | refine J_cb rfl (fun _ => ?_) (fun _ => ?_) | refine J_nb rfl (fun _ => ?_) (fun _ => ?_))))
      refine JO_q (OQ_read (i := j * 5 + 1) (v := .int .i64 o.k) hR (by repeat (first | exact .head _ | refine .tail _ ?_)) rfl rfl (by omega) (by rw [objs_get hj (by omega)]; rfl)) rfl rfl ?_
      repeat' (first | (refine IsO ?_; first | refine JO_nil ?_ | (refine IsG ?_; first | refine G1 rfl rfl ?_ | refine G2 rfl ?_) | (refine IsMove ?_; first | refine M1 rfl rfl rfl ?_ | refine M2 rfl rfl rfl ?_ | refine M3 rfl rfl rfl ?_ | refine M4 rfl rfl rfl ?_ | refine M5 rfl rfl rfl (fun _ => ?_) (fun _ => ?_) | refine M6 rfl rfl rfl (fun _ => ?_) (fun _ => ?_)) | (refine IsBin ?_; first | refine B1 rfl rfl rfl rfl ?_ | refine B2 rfl rfl rfl rfl ?_ | refine B3 rfl rfl rfl rfl ?_ | refine B4 rfl rfl rfl rfl ?_ | refine B5 rfl rfl rfl rfl ?_ | refine B6 rfl rfl rfl rfl ?_ | refine B7 rfl rfl rfl rfl rfl ?_ | refine B8 rfl rfl rfl rfl rfl ?_ | refine B9 rfl rfl rfl rfl rfl rfl rfl ?_ | refine BA rfl rfl rfl rfl rfl rfl rfl ?_) | (refine IsConv ?_; refine C1 rfl rfl rfl rfl rfl ?_) | (refine IsLoad ?_; first | refine L1 rfl rfl rfl rfl ?_ | refine L2 rfl rfl rfl rfl rfl ?_) | (refine IsStore ?_; refine S1 rfl rfl rfl rfl rfl rfl rfl (fun _ => ?_)) | (refine IsBox ?_; refine N1 rfl rfl rfl rfl (fun _ => ?_)) | (refine IsAlloc ?_; refine N2 rfl rfl rfl rfl (fun _ => ?_)) | (refine IsBuild ?_; refine U1 rfl rfl rfl rfl rfl rfl ?_) | refine V1 rfl rfl rfl ?_) | (refine IsAt ?_; first | (with_reducible first | refine T1 ?_ | refine T2 ?_ | refine T3 ?_ | refine T4 ?_ | refine T5 ?_ | refine T6 ?_ | refine T7 ?_ | refine T8 ?_ | refine T9 ?_ | refine TA ?_ | refine TB ?_ | refine TC ?_) | ((with_reducible show At _ (PBlock _ _ (Exit.exit _)) _ _); first | refine At_block_hit ?_ | refine At_block_miss rfl ?_)) | (refine IsJ ?_; first | refine J_seq ?_ | refine J_region ?_ | refine J_block ?_ | refine J_skip ?_ | refine J_ret ?_ | refine J_exit ?_ | (refine IsCond ?_; first | refine J_cond_t rfl ?_ | refine J_cond_f rfl ?_ | refine K1 rfl ?_ | refine K2 rfl ?_ | refine K3 rfl ?_ | refine K4 rfl ?_ | refine J_cb rfl (fun _ => ?_) (fun _ => ?_) | refine J_nb rfl (fun _ => ?_) (fun _ => ?_))))
      refine At_ret rfl rfl (.tmp rfl .nil) rfl (is := [0, 0]) rfl ⟨congrArg Value.bool ?_, rfl⟩
      unfold leadsB
      have e : (x - 1).toNat = o.i := by omega
      rw [e, getD_of k2, (packI_un k3).2.2.1]
      rw [Int.toNat_natCast] at k1
      simp only [k1]
      have e0 : ¬ x = 0 := by omega
      have e1 : 1 ≤ x := by omega
      simp [e0, e1]
    · have hno' := findR_none h hc hno
      repeat' (first | (refine IsO ?_; first | refine JO_nil ?_ | (refine IsG ?_; first | refine G1 rfl rfl ?_ | refine G2 rfl ?_) | (refine IsMove ?_; first | refine M1 rfl rfl rfl ?_ | refine M2 rfl rfl rfl ?_ | refine M3 rfl rfl rfl ?_ | refine M4 rfl rfl rfl ?_ | refine M5 rfl rfl rfl (fun _ => ?_) (fun _ => ?_) | refine M6 rfl rfl rfl (fun _ => ?_) (fun _ => ?_)) | (refine IsBin ?_; first | refine B1 rfl rfl rfl rfl ?_ | refine B2 rfl rfl rfl rfl ?_ | refine B3 rfl rfl rfl rfl ?_ | refine B4 rfl rfl rfl rfl ?_ | refine B5 rfl rfl rfl rfl ?_ | refine B6 rfl rfl rfl rfl ?_ | refine B7 rfl rfl rfl rfl rfl ?_ | refine B8 rfl rfl rfl rfl rfl ?_ | refine B9 rfl rfl rfl rfl rfl rfl rfl ?_ | refine BA rfl rfl rfl rfl rfl rfl rfl ?_) | (refine IsConv ?_; refine C1 rfl rfl rfl rfl rfl ?_) | (refine IsLoad ?_; first | refine L1 rfl rfl rfl rfl ?_ | refine L2 rfl rfl rfl rfl rfl ?_) | (refine IsStore ?_; refine S1 rfl rfl rfl rfl rfl rfl rfl (fun _ => ?_)) | (refine IsBox ?_; refine N1 rfl rfl rfl rfl (fun _ => ?_)) | (refine IsAlloc ?_; refine N2 rfl rfl rfl rfl (fun _ => ?_)) | (refine IsBuild ?_; refine U1 rfl rfl rfl rfl rfl rfl ?_) | refine V1 rfl rfl rfl ?_) | (refine IsAt ?_; first | (with_reducible first | refine T1 ?_ | refine T2 ?_ | refine T3 ?_ | refine T4 ?_ | refine T5 ?_ | refine T6 ?_ | refine T7 ?_ | refine T8 ?_ | refine T9 ?_ | refine TA ?_ | refine TB ?_ | refine TC ?_) | ((with_reducible show At _ (PBlock _ _ (Exit.exit _)) _ _); first | refine At_block_hit ?_ | refine At_block_miss rfl ?_)) | (refine IsJ ?_; first | refine J_seq ?_ | refine J_region ?_ | refine J_block ?_ | refine J_skip ?_ | refine J_ret ?_ | refine J_exit ?_ | (refine IsCond ?_; first | refine J_cond_t rfl ?_ | refine J_cond_f rfl ?_ | refine K1 rfl ?_ | refine K2 rfl ?_ | refine K3 rfl ?_ | refine K4 rfl ?_ | refine J_cb rfl (fun _ => ?_) (fun _ => ?_) | refine J_nb rfl (fun _ => ?_) (fun _ => ?_))))
      refine At_ret rfl rfl (.tmp rfl .nil) rfl (is := [0, 0]) rfl ⟨congrArg Value.bool ?_, rfl⟩
      unfold leadsB
      refine (decide_eq_false ?_).symm
      rintro (e | ⟨e1, e2, _⟩)
      · omega
      · exact hno' ⟨by omega, e2⟩
end ops
end Go.Proofs.Ytahfnbpbdnmggaa
/-
  Our own: the document's heaps (besomref01): Check; the law's Is: that a heap is the document's.
-/
set_option linter.unusedVariables false
set_option linter.unusedSimpArgs false
namespace Go.Proofs.Ytahfnbpbdnmggaa
open Go.Sep
def okO (ws : List Int) (st : List Bool) (o : RO) : Prop := ∀ (j : Nat) (x : Int), (j : Int) < o.p → o.ws[j]? = some x → leadsB ws st x = true
theorem refs_iff {n T : Nat} {ws : List Int} {st : List Bool} {os : List RO} (h : HT n T ws st) (hc : Ch ws 0 os T) : RefsOk ws st ↔ ∀ o ∈ os, okO ws st o := by
  constructor
  · intro hr o ho j x hj hx
    obtain ⟨q, hq⟩ := List.getElem?_of_mem ho
    obtain ⟨⟨_, k1⟩, k2, k3, k4, k5⟩ := findR_some (x := 0) h hc hq
    rw [Int.toNat_natCast] at k1
    have hjl := (List.getElem?_eq_some_iff.1 hx).1
    have := hr o.i _ k1 k2 j (by rw [(packI_un k3).2.2.2.2]; exact hj)
    rw [getD_of ((k5 j hjl).trans hx)] at this
    exact this
  · intro hr i w hs hw j hj
    obtain ⟨o, ho, e⟩ := Ch.find h hc (h.zero.imp (fun e => e.symm) id) i (Nat.zero_le _) hs
    subst e
    obtain ⟨q, hq⟩ := List.getElem?_of_mem ho
    obtain ⟨⟨_, k1⟩, k2, k3, k4, k5⟩ := findR_some (x := 0) h hc hq
    rw [hw] at k2; injection k2 with k2; subst k2
    rw [(packI_un k3).2.2.2.2] at hj
    have hgb := of_decide_eq_true k3
    have hjl : j < o.ws.length := by omega
    rw [getD_of ((k5 j hjl).trans (List.getElem?_eq_getElem hjl))]
    exact hr o ho j _ hj (List.getElem?_eq_getElem hjl)
theorem Ch.mem64 {n T : Nat} {ws : List Int} {st : List Bool} {os : List RO} (h : HT n T ws st) (hc : Ch ws 0 os T) {o : RO} (ho : o ∈ os) {j : Nat} {x : Int} (hx : o.ws[j]? = some x) : In64 x := by
  obtain ⟨q, hq⟩ := List.getElem?_of_mem ho
  obtain ⟨_, k2, k3, k4, k5⟩ := findR_some (x := 0) h hc hq
  have hjl := (List.getElem?_eq_some_iff.1 hx).1
  exact h.w64 x (List.mem_of_getElem? ((k5 j hjl).trans hx))
section ops
variable {a : Option Addr} {cap : Nat} {os : List RO} {n T : Nat} {ws : List Int} {st : List Bool}
theorem Ch.pos_T (hc : Ch ws 0 os T) {q : Nat} (hq : q ≤ os.length) (e : posAt os T q = T) : q = os.length := by
  rcases Nat.lt_or_ge q os.length with c | c
  · have ho : os[q]? = some os[q] := List.getElem?_eq_getElem _
    have := posAt_of (T := T) ho
    have := (hc.at ho).2.2.2.2.2.le
    omega
  · omega
end ops
end Go.Proofs.Ytahfnbpbdnmggaa
/-
  Our own: the document's heaps (besomref01): Of.
-/
set_option linter.unusedVariables false
set_option linter.unusedSimpArgs false
namespace Go.Proofs.Ytahfnbpbdnmggaa
open Go.Sep
theorem Ch.snoc {ws : List Int} {os : List RO} {i T : Nat} {o : RO} (h : Ch ws i os T) (h1 : o.i = T) (h2 : goodB o.k o.ws.length o.p = true) (h3 : ws[T]? = some (packI o.k o.ws.length o.p)) (h4 : ∀ j : Nat, j < o.ws.length → ws[T + 1 + j]? = o.ws[j]?) : Ch ws i (os ++ [o]) (T + 1 + o.ws.length) :=
  Ch.app.2 ⟨T, h, h1, h2, h3, h4, rfl⟩
theorem RW_nil {l : List HP} {H : PH} (h : Stars l H) : Stars (RW [] :: l) H := Stars.shut (ps := []) h
section ops
variable {R : HP} {a : Option Addr} {cap : Nat}
end ops
end Go.Proofs.Ytahfnbpbdnmggaa
/-
  Our own: the document's heaps (besomref01): Write.
-/
set_option linter.unusedVariables false
set_option linter.unusedSimpArgs false
namespace Go.Proofs.Ytahfnbpbdnmggaa
open Go.Sep
theorem perm_set {α : Type} {x o : α} : ∀ {os : List α} {j : Nat}, os[j]? = some o → (x :: os).Perm (os.set j x ++ [o])
  | [], j, h => by simp at h
  | y :: r, 0, h => by
    simp at h
    subst h
    refine List.Perm.cons x ?_
    exact List.perm_append_comm (l₁ := [y]) (l₂ := r)
  | y :: r, j + 1, h => by
    have h1 : r[j]? = some o := by simpa using h
    exact (List.Perm.swap y x r).trans ((perm_set h1).cons y)
theorem put_words {o x : RO} (hx : x.i = o.i ∧ x.k = o.k ∧ x.p = o.p ∧ x.ws.length = o.ws.length) : ∀ {os : List RO} {j : Nat}, os[j]? = some o → putL (os.flatMap cellsO) (j * 5 + 4) [.slice x.wa x.ws.length x.wc] = some ((os.set j x).flatMap cellsO)
  | [], j, h => by simp at h
  | y :: r, 0, h => by
    simp at h
    subst h
    obtain ⟨h1, h2, h3, h4⟩ := hx
    rw [putL_split (by simp)]
    simp [h1, h2, h3, h4]
  | y :: r, j + 1, h => by
    have h1 : r[j]? = some o := by simpa using h
    have ih := put_words (os := r) hx h1
    have hj := (List.getElem?_eq_some_iff.1 h1).1
    have hl : (r.flatMap cellsO).length = r.length * 5 := objs_len
    rw [putL_split (by rw [hl]; simp; omega)] at ih
    injection ih with ih
    rw [putL_split (by simp only [List.flatMap_cons, List.length_append, hl]; simp; omega)]
    simp only [List.flatMap_cons, List.set_cons_succ]
    rw [← ih]
    rw [show (j + 1) * 5 + 4 = (cellsO y).length + (j * 5 + 4) by simp; omega, List.take_length_add_append, show (cellsO y).length + (j * 5 + 4) + [Value.slice x.wa x.ws.length x.wc].length = (cellsO y).length + (j * 5 + 4 + [Value.slice x.wa x.ws.length x.wc].length) by omega, List.drop_length_add_append]
    simp
theorem Ch.write {ws : List Int} {o : RO} {m : Nat} {word : Int} {wa : Option Addr} {wc : Nat} (hm : m < o.ws.length) : ∀ {os : List RO} {i T j : Nat}, Ch ws i os T → os[j]? = some o → Ch (ws.set (o.i + 1 + m) word) i (os.set j { o with ws := o.ws.set m word, wa := wa, wc := wc }) T
  | [], i, T, j, _, hj => by simp at hj
  | y :: r, i, T, 0, ⟨h1, h2, h3, h4, h5⟩, hj => by
    simp at hj
    subst hj
    have hb := (List.getElem?_eq_some_iff.1 ((h4 m hm).trans (List.getElem?_eq_getElem hm))).1
    refine ⟨h1, by simpa using h2, ?_, ?_, ?_⟩
    · rw [List.getElem?_set_ne (by omega)]
      simpa using h3
    · intro q hq
      have hq' : q < y.ws.length := by simpa using hq
      dsimp only
      rw [List.getElem?_set, List.getElem?_set]
      by_cases e : m = q
      · subst e
        rw [if_pos (by omega), if_pos rfl, if_pos (by omega), if_pos hm]
      · rw [if_neg (by omega), if_neg e]
        exact h4 q hq'
    · have e : (y.ws.set m word).length = y.ws.length := by simp
      show Ch _ (i + 1 + (y.ws.set m word).length) r T
      rw [e]
      exact h5.keep fun j a b => List.getElem?_set_ne (by omega)
  | y :: r, i, T, j + 1, ⟨h1, h2, h3, h4, h5⟩, hj => by
    have hj1 : r[j]? = some o := by simpa using hj
    have hle := (h5.at hj1).1.le
    refine ⟨h1, h2, ?_, ?_, Ch.write hm h5 hj1⟩
    · rw [List.getElem?_set_ne (by omega)]
      exact h3
    · intro q hq
      rw [List.getElem?_set_ne (by omega)]
      exact h4 q hq
section ops
variable {a : Option Addr} {cap : Nat} {os : List RO} {n T : Nat} {ws : List Int} {st : List Bool}
set_option maxHeartbeats 16000000 in
theorem refWrite_spec (size x f word : Int) (h : HT n T ws st) (hc : Ch ws 0 os T) (h64 : In64 word) : Does Try.prog 35 [refV size a os.length cap, .int .i64 x, .int .i64 f, .int .i64 word] (refL a cap os)
    (fun v l => ∃ a' cap' os', Ch (writeW ws st x f word) 0 os' T ∧ v = .tuple #[refV size a' os'.length cap', .int .i64 (writeC ws st x f word)] ∧ l = refL a' cap' os') := by
  have hlen := hc.len
  have htn := h.tn
  have hnb := h.nb
  refine Does.of tiok Try.func35 (by kernel_rfl) rfl Try.ntmps35 rfl ?_
  intro W fr
  refine J_rowzf P0 ?_
  rintro ⟨hl, hnn, hcc⟩
  have hR : Reads (objsZ a cap os) 5 os.length a cap (os.flatMap cellsO) := Reads.rowz hl hnn
  refine J_fact _ (fun w hs => RW_ok hs (.tail _ (.head _))) (fun ok => ?_)
  repeat' (first | (refine IsO ?_; first | refine JO_nil ?_ | (refine IsG ?_; first | refine G1 rfl rfl ?_ | refine G2 rfl ?_) | (refine IsMove ?_; first | refine M1 rfl rfl rfl ?_ | refine M2 rfl rfl rfl ?_ | refine M3 rfl rfl rfl ?_ | refine M4 rfl rfl rfl ?_ | refine M5 rfl rfl rfl (fun _ => ?_) (fun _ => ?_) | refine M6 rfl rfl rfl (fun _ => ?_) (fun _ => ?_)) | (refine IsBin ?_; first | refine B1 rfl rfl rfl rfl ?_ | refine B2 rfl rfl rfl rfl ?_ | refine B3 rfl rfl rfl rfl ?_ | refine B4 rfl rfl rfl rfl ?_ | refine B5 rfl rfl rfl rfl ?_ | refine B6 rfl rfl rfl rfl ?_ | refine B7 rfl rfl rfl rfl rfl ?_ | refine B8 rfl rfl rfl rfl rfl ?_ | refine B9 rfl rfl rfl rfl rfl rfl rfl ?_ | refine BA rfl rfl rfl rfl rfl rfl rfl ?_) | (refine IsConv ?_; refine C1 rfl rfl rfl rfl rfl ?_) | (refine IsLoad ?_; first | refine L1 rfl rfl rfl rfl ?_ | refine L2 rfl rfl rfl rfl rfl ?_) | (refine IsStore ?_; refine S1 rfl rfl rfl rfl rfl rfl rfl (fun _ => ?_)) | (refine IsBox ?_; refine N1 rfl rfl rfl rfl (fun _ => ?_)) | (refine IsAlloc ?_; refine N2 rfl rfl rfl rfl (fun _ => ?_)) | (refine IsBuild ?_; refine U1 rfl rfl rfl rfl rfl rfl ?_) | refine V1 rfl rfl rfl ?_) | (refine IsAt ?_; first | (with_reducible first | refine T1 ?_ | refine T2 ?_ | refine T3 ?_ | refine T4 ?_ | refine T5 ?_ | refine T6 ?_ | refine T7 ?_ | refine T8 ?_ | refine T9 ?_ | refine TA ?_ | refine TB ?_ | refine TC ?_) | ((with_reducible show At _ (PBlock _ _ (Exit.exit _)) _ _); first | refine At_block_hit ?_ | refine At_block_miss rfl ?_)) | (refine IsJ ?_; first | refine J_seq ?_ | refine J_region ?_ | refine J_block ?_ | refine J_skip ?_ | refine J_ret ?_ | refine J_exit ?_ | (refine IsCond ?_; first | refine J_cond_t rfl ?_ | refine J_cond_f rfl ?_ | refine K1 rfl ?_ | refine K2 rfl ?_ | refine K3 rfl ?_ | refine K4 rfl ?_ | refine J_cb rfl (fun _ => ?_) (fun _ => ?_) | refine J_nb rfl (fun _ => ?_) (fun _ => ?_))))
  refine JO_l (OL_call [2, 2] rfl rfl rfl (Find_spec _ _ (by omega)) rfl) rfl rfl ?_; rintro _ _ ⟨_, ⟨r, hr, rfl, rfl⟩, rfl⟩
  rcases hr with ⟨j, o, rfl, hj, hi⟩ | ⟨rfl, hno⟩
  case inr =>
    have hno' := findR_none h hc hno
    have hC : writeC ws st x f word = 3 := by unfold writeC; rw [if_pos hno']
    have hW : writeW ws st x f word = ws := by unfold writeW; rw [hC]; rfl
    rw [hC, hW]
    repeat' (first | (refine IsO ?_; first | refine JO_nil ?_ | (refine IsG ?_; first | refine G1 rfl rfl ?_ | refine G2 rfl ?_) | (refine IsMove ?_; first | refine M1 rfl rfl rfl ?_ | refine M2 rfl rfl rfl ?_ | refine M3 rfl rfl rfl ?_ | refine M4 rfl rfl rfl ?_ | refine M5 rfl rfl rfl (fun _ => ?_) (fun _ => ?_) | refine M6 rfl rfl rfl (fun _ => ?_) (fun _ => ?_)) | (refine IsBin ?_; first | refine B1 rfl rfl rfl rfl ?_ | refine B2 rfl rfl rfl rfl ?_ | refine B3 rfl rfl rfl rfl ?_ | refine B4 rfl rfl rfl rfl ?_ | refine B5 rfl rfl rfl rfl ?_ | refine B6 rfl rfl rfl rfl ?_ | refine B7 rfl rfl rfl rfl rfl ?_ | refine B8 rfl rfl rfl rfl rfl ?_ | refine B9 rfl rfl rfl rfl rfl rfl rfl ?_ | refine BA rfl rfl rfl rfl rfl rfl rfl ?_) | (refine IsConv ?_; refine C1 rfl rfl rfl rfl rfl ?_) | (refine IsLoad ?_; first | refine L1 rfl rfl rfl rfl ?_ | refine L2 rfl rfl rfl rfl rfl ?_) | (refine IsStore ?_; refine S1 rfl rfl rfl rfl rfl rfl rfl (fun _ => ?_)) | (refine IsBox ?_; refine N1 rfl rfl rfl rfl (fun _ => ?_)) | (refine IsAlloc ?_; refine N2 rfl rfl rfl rfl (fun _ => ?_)) | (refine IsBuild ?_; refine U1 rfl rfl rfl rfl rfl rfl ?_) | refine V1 rfl rfl rfl ?_) | (refine IsAt ?_; first | (with_reducible first | refine T1 ?_ | refine T2 ?_ | refine T3 ?_ | refine T4 ?_ | refine T5 ?_ | refine T6 ?_ | refine T7 ?_ | refine T8 ?_ | refine T9 ?_ | refine TA ?_ | refine TB ?_ | refine TC ?_) | ((with_reducible show At _ (PBlock _ _ (Exit.exit _)) _ _); first | refine At_block_hit ?_ | refine At_block_miss rfl ?_)) | (refine IsJ ?_; first | refine J_seq ?_ | refine J_region ?_ | refine J_block ?_ | refine J_skip ?_ | refine J_ret ?_ | refine J_exit ?_ | (refine IsCond ?_; first | refine J_cond_t rfl ?_ | refine J_cond_f rfl ?_ | refine K1 rfl ?_ | refine K2 rfl ?_ | refine K3 rfl ?_ | refine K4 rfl ?_ | refine J_cb rfl (fun _ => ?_) (fun _ => ?_) | refine J_nb rfl (fun _ => ?_) (fun _ => ?_))))
    exact At_ret rfl rfl (.agg rfl rfl rfl (by repeat (first | exact .head _ | refine .tail _ ?_)) rfl (.tmp rfl .nil)) rfl (is := [1, 1]) rfl ⟨a, cap, os, hc, rfl, rfl⟩
  obtain ⟨k0, k2, k3, k4, k5⟩ := findR_some (x := x) h hc hj
  have hjl : j < os.length := (List.getElem?_eq_some_iff.1 hj).1
  have hgb := of_decide_eq_true k3
  obtain ⟨u1, u2, u3, u4, u5⟩ := packI_un k3
  have e0 : ws.getD x.toNat 0 = packI o.k o.ws.length o.p := getD_of (by rw [show x.toNat = o.i by omega]; exact k2)
  have hob : isObj st x := by rw [← hi]; exact k0
  have hC : writeC ws st x f word = if ¬ (0 ≤ f ∧ f < (o.ws.length : Int)) then 4 else if o.k = 15 then 4 else if f < o.p ∧ leadsB ws st word = false then 5 else 0 := by
    unfold writeC
    rw [if_neg (not_not_intro hob), e0, u3, u4, u5]
  have hW : writeC ws st x f word ≠ 0 → writeW ws st x f word = ws := fun e => by unfold writeW; rw [if_neg e]
  refine JO_fact _ (fun w hs => hR.some (by omega) hs (by repeat (first | exact .head _ | refine .tail _ ?_))) ?_
  rintro ⟨b, of, rfl⟩
  repeat' (first | (refine IsO ?_; first | refine JO_nil ?_ | (refine IsG ?_; first | refine G1 rfl rfl ?_ | refine G2 rfl ?_) | (refine IsMove ?_; first | refine M1 rfl rfl rfl ?_ | refine M2 rfl rfl rfl ?_ | refine M3 rfl rfl rfl ?_ | refine M4 rfl rfl rfl ?_ | refine M5 rfl rfl rfl (fun _ => ?_) (fun _ => ?_) | refine M6 rfl rfl rfl (fun _ => ?_) (fun _ => ?_)) | (refine IsBin ?_; first | refine B1 rfl rfl rfl rfl ?_ | refine B2 rfl rfl rfl rfl ?_ | refine B3 rfl rfl rfl rfl ?_ | refine B4 rfl rfl rfl rfl ?_ | refine B5 rfl rfl rfl rfl ?_ | refine B6 rfl rfl rfl rfl ?_ | refine B7 rfl rfl rfl rfl rfl ?_ | refine B8 rfl rfl rfl rfl rfl ?_ | refine B9 rfl rfl rfl rfl rfl rfl rfl ?_ | refine BA rfl rfl rfl rfl rfl rfl rfl ?_) | (refine IsConv ?_; refine C1 rfl rfl rfl rfl rfl ?_) | (refine IsLoad ?_; first | refine L1 rfl rfl rfl rfl ?_ | refine L2 rfl rfl rfl rfl rfl ?_) | (refine IsStore ?_; refine S1 rfl rfl rfl rfl rfl rfl rfl (fun _ => ?_)) | (refine IsBox ?_; refine N1 rfl rfl rfl rfl (fun _ => ?_)) | (refine IsAlloc ?_; refine N2 rfl rfl rfl rfl (fun _ => ?_)) | (refine IsBuild ?_; refine U1 rfl rfl rfl rfl rfl rfl ?_) | refine V1 rfl rfl rfl ?_) | (refine IsAt ?_; first | (with_reducible first | refine T1 ?_ | refine T2 ?_ | refine T3 ?_ | refine T4 ?_ | refine T5 ?_ | refine T6 ?_ | refine T7 ?_ | refine T8 ?_ | refine T9 ?_ | refine TA ?_ | refine TB ?_ | refine TC ?_) | ((with_reducible show At _ (PBlock _ _ (Exit.exit _)) _ _); first | refine At_block_hit ?_ | refine At_block_miss rfl ?_)) | (refine IsJ ?_; first | refine J_seq ?_ | refine J_region ?_ | refine J_block ?_ | refine J_skip ?_ | refine J_ret ?_ | refine J_exit ?_ | (refine IsCond ?_; first | refine J_cond_t rfl ?_ | refine J_cond_f rfl ?_ | refine K1 rfl ?_ | refine K2 rfl ?_ | refine K3 rfl ?_ | refine K4 rfl ?_ | refine J_cb rfl (fun _ => ?_) (fun _ => ?_) | refine J_nb rfl (fun _ => ?_) (fun _ => ?_))))
  refine JO_val (OV_idx (off := of + j * 5) rfl rfl rfl rfl (by omega) (by omega) (by simp)) rfl rfl ?_
  refine JO_q (OQ_readA (i := j * 5) hR (by repeat (first | exact .head _ | refine .tail _ ?_)) rfl rfl rfl (by omega) (objs_take hj)) rfl rfl ?_
  by_cases hf : 0 ≤ f ∧ f < (o.ws.length : Int)
  case neg =>
    rw [if_pos hf] at hC
    rw [hW (by rw [hC]; decide), hC]
    repeat' (first | (refine IsO ?_; first | refine JO_nil ?_ | (refine IsG ?_; first | refine G1 rfl rfl ?_ | refine G2 rfl ?_) | (refine IsMove ?_; first | refine M1 rfl rfl rfl ?_ | refine M2 rfl rfl rfl ?_ | refine M3 rfl rfl rfl ?_ | refine M4 rfl rfl rfl ?_ | refine M5 rfl rfl rfl (fun _ => ?_) (fun _ => ?_) | refine M6 rfl rfl rfl (fun _ => ?_) (fun _ => ?_)) | (refine IsBin ?_; first | refine B1 rfl rfl rfl rfl ?_ | refine B2 rfl rfl rfl rfl ?_ | refine B3 rfl rfl rfl rfl ?_ | refine B4 rfl rfl rfl rfl ?_ | refine B5 rfl rfl rfl rfl ?_ | refine B6 rfl rfl rfl rfl ?_ | refine B7 rfl rfl rfl rfl rfl ?_ | refine B8 rfl rfl rfl rfl rfl ?_ | refine B9 rfl rfl rfl rfl rfl rfl rfl ?_ | refine BA rfl rfl rfl rfl rfl rfl rfl ?_) | (refine IsConv ?_; refine C1 rfl rfl rfl rfl rfl ?_) | (refine IsLoad ?_; first | refine L1 rfl rfl rfl rfl ?_ | refine L2 rfl rfl rfl rfl rfl ?_) | (refine IsStore ?_; refine S1 rfl rfl rfl rfl rfl rfl rfl (fun _ => ?_)) | (refine IsBox ?_; refine N1 rfl rfl rfl rfl (fun _ => ?_)) | (refine IsAlloc ?_; refine N2 rfl rfl rfl rfl (fun _ => ?_)) | (refine IsBuild ?_; refine U1 rfl rfl rfl rfl rfl rfl ?_) | refine V1 rfl rfl rfl ?_) | (refine IsAt ?_; first | (with_reducible first | refine T1 ?_ | refine T2 ?_ | refine T3 ?_ | refine T4 ?_ | refine T5 ?_ | refine T6 ?_ | refine T7 ?_ | refine T8 ?_ | refine T9 ?_ | refine TA ?_ | refine TB ?_ | refine TC ?_) | ((with_reducible show At _ (PBlock _ _ (Exit.exit _)) _ _); first | refine At_block_hit ?_ | refine At_block_miss rfl ?_)) | (refine IsJ ?_; first | refine J_seq ?_ | refine J_region ?_ | refine J_block ?_ | refine J_skip ?_ | refine J_ret ?_ | refine J_exit ?_ | (refine IsCond ?_; first | refine J_cond_t rfl ?_ | refine J_cond_f rfl ?_ | refine K1 rfl ?_ | refine K2 rfl ?_ | refine K3 rfl ?_ | refine K4 rfl ?_ | refine J_cb rfl (fun _ => ?_) (fun _ => ?_) | refine J_nb rfl (fun _ => ?_) (fun _ => ?_))))
    all_goals exact At_ret rfl rfl (.agg rfl rfl rfl (by repeat (first | exact .head _ | refine .tail _ ?_)) rfl (.tmp rfl .nil)) rfl (is := [2, 2]) rfl ⟨_, cap, os, hc, rfl, rfl⟩
  rw [if_neg (not_not_intro hf)] at hC
  obtain ⟨m, rfl⟩ := Int.eq_ofNat_of_zero_le hf.1
  have hm : m < o.ws.length := by omega
  by_cases hk : o.k = 15
  case pos =>
    rw [if_pos hk] at hC
    rw [hW (by rw [hC]; decide), hC]
    repeat' (first | (refine IsO ?_; first | refine JO_nil ?_ | (refine IsG ?_; first | refine G1 rfl rfl ?_ | refine G2 rfl ?_) | (refine IsMove ?_; first | refine M1 rfl rfl rfl ?_ | refine M2 rfl rfl rfl ?_ | refine M3 rfl rfl rfl ?_ | refine M4 rfl rfl rfl ?_ | refine M5 rfl rfl rfl (fun _ => ?_) (fun _ => ?_) | refine M6 rfl rfl rfl (fun _ => ?_) (fun _ => ?_)) | (refine IsBin ?_; first | refine B1 rfl rfl rfl rfl ?_ | refine B2 rfl rfl rfl rfl ?_ | refine B3 rfl rfl rfl rfl ?_ | refine B4 rfl rfl rfl rfl ?_ | refine B5 rfl rfl rfl rfl ?_ | refine B6 rfl rfl rfl rfl ?_ | refine B7 rfl rfl rfl rfl rfl ?_ | refine B8 rfl rfl rfl rfl rfl ?_ | refine B9 rfl rfl rfl rfl rfl rfl rfl ?_ | refine BA rfl rfl rfl rfl rfl rfl rfl ?_) | (refine IsConv ?_; refine C1 rfl rfl rfl rfl rfl ?_) | (refine IsLoad ?_; first | refine L1 rfl rfl rfl rfl ?_ | refine L2 rfl rfl rfl rfl rfl ?_) | (refine IsStore ?_; refine S1 rfl rfl rfl rfl rfl rfl rfl (fun _ => ?_)) | (refine IsBox ?_; refine N1 rfl rfl rfl rfl (fun _ => ?_)) | (refine IsAlloc ?_; refine N2 rfl rfl rfl rfl (fun _ => ?_)) | (refine IsBuild ?_; refine U1 rfl rfl rfl rfl rfl rfl ?_) | refine V1 rfl rfl rfl ?_) | (refine IsAt ?_; first | (with_reducible first | refine T1 ?_ | refine T2 ?_ | refine T3 ?_ | refine T4 ?_ | refine T5 ?_ | refine T6 ?_ | refine T7 ?_ | refine T8 ?_ | refine T9 ?_ | refine TA ?_ | refine TB ?_ | refine TC ?_) | ((with_reducible show At _ (PBlock _ _ (Exit.exit _)) _ _); first | refine At_block_hit ?_ | refine At_block_miss rfl ?_)) | (refine IsJ ?_; first | refine J_seq ?_ | refine J_region ?_ | refine J_block ?_ | refine J_skip ?_ | refine J_ret ?_ | refine J_exit ?_ | (refine IsCond ?_; first | refine J_cond_t rfl ?_ | refine J_cond_f rfl ?_ | refine K1 rfl ?_ | refine K2 rfl ?_ | refine K3 rfl ?_ | refine K4 rfl ?_ | refine J_cb rfl (fun _ => ?_) (fun _ => ?_) | refine J_nb rfl (fun _ => ?_) (fun _ => ?_))))
    all_goals exact At_ret rfl rfl (.agg rfl rfl rfl (by repeat (first | exact .head _ | refine .tail _ ?_)) rfl (.tmp rfl .nil)) rfl (is := [2, 2]) rfl ⟨_, cap, os, hc, rfl, rfl⟩
  rw [if_neg hk] at hC
  have hcase : ((m : Int) < o.p ∧ leadsB ws st word = false) ∨ ((m : Int) < o.p ∧ leadsB ws st word = true) ∨ ¬ (m : Int) < o.p := by
    by_cases h1 : (m : Int) < o.p
    · cases leadsB ws st word
      · exact .inl ⟨h1, rfl⟩
      · exact .inr (.inl ⟨h1, rfl⟩)
    · exact .inr (.inr h1)
  rcases hcase with ⟨h1, h2⟩ | hcase
  · rw [if_pos ⟨h1, h2⟩] at hC
    rw [hW (by rw [hC]; decide), hC]
    repeat' (first | (refine IsO ?_; first | refine JO_nil ?_ | (refine IsG ?_; first | refine G1 rfl rfl ?_ | refine G2 rfl ?_) | (refine IsMove ?_; first | refine M1 rfl rfl rfl ?_ | refine M2 rfl rfl rfl ?_ | refine M3 rfl rfl rfl ?_ | refine M4 rfl rfl rfl ?_ | refine M5 rfl rfl rfl (fun _ => ?_) (fun _ => ?_) | refine M6 rfl rfl rfl (fun _ => ?_) (fun _ => ?_)) | (refine IsBin ?_; first | refine B1 rfl rfl rfl rfl ?_ | refine B2 rfl rfl rfl rfl ?_ | refine B3 rfl rfl rfl rfl ?_ | refine B4 rfl rfl rfl rfl ?_ | refine B5 rfl rfl rfl rfl ?_ | refine B6 rfl rfl rfl rfl ?_ | refine B7 rfl rfl rfl rfl rfl ?_ | refine B8 rfl rfl rfl rfl rfl ?_ | refine B9 rfl rfl rfl rfl rfl rfl rfl ?_ | refine BA rfl rfl rfl rfl rfl rfl rfl ?_) | (refine IsConv ?_; refine C1 rfl rfl rfl rfl rfl ?_) | (refine IsLoad ?_; first | refine L1 rfl rfl rfl rfl ?_ | refine L2 rfl rfl rfl rfl rfl ?_) | (refine IsStore ?_; refine S1 rfl rfl rfl rfl rfl rfl rfl (fun _ => ?_)) | (refine IsBox ?_; refine N1 rfl rfl rfl rfl (fun _ => ?_)) | (refine IsAlloc ?_; refine N2 rfl rfl rfl rfl (fun _ => ?_)) | (refine IsBuild ?_; refine U1 rfl rfl rfl rfl rfl rfl ?_) | refine V1 rfl rfl rfl ?_) | (refine IsAt ?_; first | (with_reducible first | refine T1 ?_ | refine T2 ?_ | refine T3 ?_ | refine T4 ?_ | refine T5 ?_ | refine T6 ?_ | refine T7 ?_ | refine T8 ?_ | refine T9 ?_ | refine TA ?_ | refine TB ?_ | refine TC ?_) | ((with_reducible show At _ (PBlock _ _ (Exit.exit _)) _ _); first | refine At_block_hit ?_ | refine At_block_miss rfl ?_)) | (refine IsJ ?_; first | refine J_seq ?_ | refine J_region ?_ | refine J_block ?_ | refine J_skip ?_ | refine J_ret ?_ | refine J_exit ?_ | (refine IsCond ?_; first | refine J_cond_t rfl ?_ | refine J_cond_f rfl ?_ | refine K1 rfl ?_ | refine K2 rfl ?_ | refine K3 rfl ?_ | refine K4 rfl ?_ | refine J_cb rfl (fun _ => ?_) (fun _ => ?_) | refine J_nb rfl (fun _ => ?_) (fun _ => ?_))))
    refine JO_l (OL_call [1, 1] rfl rfl rfl (Leads_spec size word h hc h64) rfl) rfl rfl ?_; rintro _ _ ⟨_, ⟨rfl, rfl⟩, rfl⟩
    rw [h2]
    repeat' (first | (refine IsO ?_; first | refine JO_nil ?_ | (refine IsG ?_; first | refine G1 rfl rfl ?_ | refine G2 rfl ?_) | (refine IsMove ?_; first | refine M1 rfl rfl rfl ?_ | refine M2 rfl rfl rfl ?_ | refine M3 rfl rfl rfl ?_ | refine M4 rfl rfl rfl ?_ | refine M5 rfl rfl rfl (fun _ => ?_) (fun _ => ?_) | refine M6 rfl rfl rfl (fun _ => ?_) (fun _ => ?_)) | (refine IsBin ?_; first | refine B1 rfl rfl rfl rfl ?_ | refine B2 rfl rfl rfl rfl ?_ | refine B3 rfl rfl rfl rfl ?_ | refine B4 rfl rfl rfl rfl ?_ | refine B5 rfl rfl rfl rfl ?_ | refine B6 rfl rfl rfl rfl ?_ | refine B7 rfl rfl rfl rfl rfl ?_ | refine B8 rfl rfl rfl rfl rfl ?_ | refine B9 rfl rfl rfl rfl rfl rfl rfl ?_ | refine BA rfl rfl rfl rfl rfl rfl rfl ?_) | (refine IsConv ?_; refine C1 rfl rfl rfl rfl rfl ?_) | (refine IsLoad ?_; first | refine L1 rfl rfl rfl rfl ?_ | refine L2 rfl rfl rfl rfl rfl ?_) | (refine IsStore ?_; refine S1 rfl rfl rfl rfl rfl rfl rfl (fun _ => ?_)) | (refine IsBox ?_; refine N1 rfl rfl rfl rfl (fun _ => ?_)) | (refine IsAlloc ?_; refine N2 rfl rfl rfl rfl (fun _ => ?_)) | (refine IsBuild ?_; refine U1 rfl rfl rfl rfl rfl rfl ?_) | refine V1 rfl rfl rfl ?_) | (refine IsAt ?_; first | (with_reducible first | refine T1 ?_ | refine T2 ?_ | refine T3 ?_ | refine T4 ?_ | refine T5 ?_ | refine T6 ?_ | refine T7 ?_ | refine T8 ?_ | refine T9 ?_ | refine TA ?_ | refine TB ?_ | refine TC ?_) | ((with_reducible show At _ (PBlock _ _ (Exit.exit _)) _ _); first | refine At_block_hit ?_ | refine At_block_miss rfl ?_)) | (refine IsJ ?_; first | refine J_seq ?_ | refine J_region ?_ | refine J_block ?_ | refine J_skip ?_ | refine J_ret ?_ | refine J_exit ?_ | (refine IsCond ?_; first | refine J_cond_t rfl ?_ | refine J_cond_f rfl ?_ | refine K1 rfl ?_ | refine K2 rfl ?_ | refine K3 rfl ?_ | refine K4 rfl ?_ | refine J_cb rfl (fun _ => ?_) (fun _ => ?_) | refine J_nb rfl (fun _ => ?_) (fun _ => ?_))))
    exact At_ret rfl rfl (.agg rfl rfl rfl (by repeat (first | exact .head _ | refine .tail _ ?_)) rfl (.tmp rfl .nil)) rfl (is := [1, 1]) rfl ⟨_, cap, os, hc, rfl, rfl⟩
  have hC0 : writeC ws st x m word = 0 := by
    rw [hC]
    refine if_neg ?_
    rintro ⟨h1, h2⟩
    rcases hcase with ⟨_, h3⟩ | h3
    · rw [h2] at h3; cases h3
    · exact h3 h1
  have hW0 : writeW ws st x m word = ws.set (o.i + 1 + m) word := by
    unfold writeW
    rw [if_pos hC0, show x.toNat = o.i by omega, Int.toNat_natCast]
  rw [hC0, hW0]
  clear hC hW hC0 hW0
  rcases hcase with ⟨h1, h2⟩ | h1
  case' inl =>
    repeat' (first | (refine IsO ?_; first | refine JO_nil ?_ | (refine IsG ?_; first | refine G1 rfl rfl ?_ | refine G2 rfl ?_) | (refine IsMove ?_; first | refine M1 rfl rfl rfl ?_ | refine M2 rfl rfl rfl ?_ | refine M3 rfl rfl rfl ?_ | refine M4 rfl rfl rfl ?_ | refine M5 rfl rfl rfl (fun _ => ?_) (fun _ => ?_) | refine M6 rfl rfl rfl (fun _ => ?_) (fun _ => ?_)) | (refine IsBin ?_; first | refine B1 rfl rfl rfl rfl ?_ | refine B2 rfl rfl rfl rfl ?_ | refine B3 rfl rfl rfl rfl ?_ | refine B4 rfl rfl rfl rfl ?_ | refine B5 rfl rfl rfl rfl ?_ | refine B6 rfl rfl rfl rfl ?_ | refine B7 rfl rfl rfl rfl rfl ?_ | refine B8 rfl rfl rfl rfl rfl ?_ | refine B9 rfl rfl rfl rfl rfl rfl rfl ?_ | refine BA rfl rfl rfl rfl rfl rfl rfl ?_) | (refine IsConv ?_; refine C1 rfl rfl rfl rfl rfl ?_) | (refine IsLoad ?_; first | refine L1 rfl rfl rfl rfl ?_ | refine L2 rfl rfl rfl rfl rfl ?_) | (refine IsStore ?_; refine S1 rfl rfl rfl rfl rfl rfl rfl (fun _ => ?_)) | (refine IsBox ?_; refine N1 rfl rfl rfl rfl (fun _ => ?_)) | (refine IsAlloc ?_; refine N2 rfl rfl rfl rfl (fun _ => ?_)) | (refine IsBuild ?_; refine U1 rfl rfl rfl rfl rfl rfl ?_) | refine V1 rfl rfl rfl ?_) | (refine IsAt ?_; first | (with_reducible first | refine T1 ?_ | refine T2 ?_ | refine T3 ?_ | refine T4 ?_ | refine T5 ?_ | refine T6 ?_ | refine T7 ?_ | refine T8 ?_ | refine T9 ?_ | refine TA ?_ | refine TB ?_ | refine TC ?_) | ((with_reducible show At _ (PBlock _ _ (Exit.exit _)) _ _); first | refine At_block_hit ?_ | refine At_block_miss rfl ?_)) | (refine IsJ ?_; first | refine J_seq ?_ | refine J_region ?_ | refine J_block ?_ | refine J_skip ?_ | refine J_ret ?_ | refine J_exit ?_ | (refine IsCond ?_; first | refine J_cond_t rfl ?_ | refine J_cond_f rfl ?_ | refine K1 rfl ?_ | refine K2 rfl ?_ | refine K3 rfl ?_ | refine K4 rfl ?_ | refine J_cb rfl (fun _ => ?_) (fun _ => ?_) | refine J_nb rfl (fun _ => ?_) (fun _ => ?_))))
    refine JO_l (OL_call [1, 1] rfl rfl rfl (Leads_spec size word h hc h64) rfl) rfl rfl ?_; rintro _ _ ⟨_, ⟨rfl, rfl⟩, rfl⟩
    rw [h2]
    repeat' (first | (refine IsO ?_; first | refine JO_nil ?_ | (refine IsG ?_; first | refine G1 rfl rfl ?_ | refine G2 rfl ?_) | (refine IsMove ?_; first | refine M1 rfl rfl rfl ?_ | refine M2 rfl rfl rfl ?_ | refine M3 rfl rfl rfl ?_ | refine M4 rfl rfl rfl ?_ | refine M5 rfl rfl rfl (fun _ => ?_) (fun _ => ?_) | refine M6 rfl rfl rfl (fun _ => ?_) (fun _ => ?_)) | (refine IsBin ?_; first | refine B1 rfl rfl rfl rfl ?_ | refine B2 rfl rfl rfl rfl ?_ | refine B3 rfl rfl rfl rfl ?_ | refine B4 rfl rfl rfl rfl ?_ | refine B5 rfl rfl rfl rfl ?_ | refine B6 rfl rfl rfl rfl ?_ | refine B7 rfl rfl rfl rfl rfl ?_ | refine B8 rfl rfl rfl rfl rfl ?_ | refine B9 rfl rfl rfl rfl rfl rfl rfl ?_ | refine BA rfl rfl rfl rfl rfl rfl rfl ?_) | (refine IsConv ?_; refine C1 rfl rfl rfl rfl rfl ?_) | (refine IsLoad ?_; first | refine L1 rfl rfl rfl rfl ?_ | refine L2 rfl rfl rfl rfl rfl ?_) | (refine IsStore ?_; refine S1 rfl rfl rfl rfl rfl rfl rfl (fun _ => ?_)) | (refine IsBox ?_; refine N1 rfl rfl rfl rfl (fun _ => ?_)) | (refine IsAlloc ?_; refine N2 rfl rfl rfl rfl (fun _ => ?_)) | (refine IsBuild ?_; refine U1 rfl rfl rfl rfl rfl rfl ?_) | refine V1 rfl rfl rfl ?_) | (refine IsAt ?_; first | (with_reducible first | refine T1 ?_ | refine T2 ?_ | refine T3 ?_ | refine T4 ?_ | refine T5 ?_ | refine T6 ?_ | refine T7 ?_ | refine T8 ?_ | refine T9 ?_ | refine TA ?_ | refine TB ?_ | refine TC ?_) | ((with_reducible show At _ (PBlock _ _ (Exit.exit _)) _ _); first | refine At_block_hit ?_ | refine At_block_miss rfl ?_)) | (refine IsJ ?_; first | refine J_seq ?_ | refine J_region ?_ | refine J_block ?_ | refine J_skip ?_ | refine J_ret ?_ | refine J_exit ?_ | (refine IsCond ?_; first | refine J_cond_t rfl ?_ | refine J_cond_f rfl ?_ | refine K1 rfl ?_ | refine K2 rfl ?_ | refine K3 rfl ?_ | refine K4 rfl ?_ | refine J_cb rfl (fun _ => ?_) (fun _ => ?_) | refine J_nb rfl (fun _ => ?_) (fun _ => ?_))))
    refine JO_hp (fun H hl => hl.pick (is := [2, 0, 0, 0, 0]) rfl) ?_
  case' inr =>
    repeat' (first | (refine IsO ?_; first | refine JO_nil ?_ | (refine IsG ?_; first | refine G1 rfl rfl ?_ | refine G2 rfl ?_) | (refine IsMove ?_; first | refine M1 rfl rfl rfl ?_ | refine M2 rfl rfl rfl ?_ | refine M3 rfl rfl rfl ?_ | refine M4 rfl rfl rfl ?_ | refine M5 rfl rfl rfl (fun _ => ?_) (fun _ => ?_) | refine M6 rfl rfl rfl (fun _ => ?_) (fun _ => ?_)) | (refine IsBin ?_; first | refine B1 rfl rfl rfl rfl ?_ | refine B2 rfl rfl rfl rfl ?_ | refine B3 rfl rfl rfl rfl ?_ | refine B4 rfl rfl rfl rfl ?_ | refine B5 rfl rfl rfl rfl ?_ | refine B6 rfl rfl rfl rfl ?_ | refine B7 rfl rfl rfl rfl rfl ?_ | refine B8 rfl rfl rfl rfl rfl ?_ | refine B9 rfl rfl rfl rfl rfl rfl rfl ?_ | refine BA rfl rfl rfl rfl rfl rfl rfl ?_) | (refine IsConv ?_; refine C1 rfl rfl rfl rfl rfl ?_) | (refine IsLoad ?_; first | refine L1 rfl rfl rfl rfl ?_ | refine L2 rfl rfl rfl rfl rfl ?_) | (refine IsStore ?_; refine S1 rfl rfl rfl rfl rfl rfl rfl (fun _ => ?_)) | (refine IsBox ?_; refine N1 rfl rfl rfl rfl (fun _ => ?_)) | (refine IsAlloc ?_; refine N2 rfl rfl rfl rfl (fun _ => ?_)) | (refine IsBuild ?_; refine U1 rfl rfl rfl rfl rfl rfl ?_) | refine V1 rfl rfl rfl ?_) | (refine IsAt ?_; first | (with_reducible first | refine T1 ?_ | refine T2 ?_ | refine T3 ?_ | refine T4 ?_ | refine T5 ?_ | refine T6 ?_ | refine T7 ?_ | refine T8 ?_ | refine T9 ?_ | refine TA ?_ | refine TB ?_ | refine TC ?_) | ((with_reducible show At _ (PBlock _ _ (Exit.exit _)) _ _); first | refine At_block_hit ?_ | refine At_block_miss rfl ?_)) | (refine IsJ ?_; first | refine J_seq ?_ | refine J_region ?_ | refine J_block ?_ | refine J_skip ?_ | refine J_ret ?_ | refine J_exit ?_ | (refine IsCond ?_; first | refine J_cond_t rfl ?_ | refine J_cond_f rfl ?_ | refine K1 rfl ?_ | refine K2 rfl ?_ | refine K3 rfl ?_ | refine K4 rfl ?_ | refine J_cb rfl (fun _ => ?_) (fun _ => ?_) | refine J_nb rfl (fun _ => ?_) (fun _ => ?_))))
  all_goals
    refine JO_l (OL_buildSlice (cs := []) rfl rfl rfl rfl rfl rfl rfl rfl) rfl rfl ?_
    rintro _ _ ⟨bz, rfl, rfl⟩
    repeat' (first | (refine IsO ?_; first | refine JO_nil ?_ | (refine IsG ?_; first | refine G1 rfl rfl ?_ | refine G2 rfl ?_) | (refine IsMove ?_; first | refine M1 rfl rfl rfl ?_ | refine M2 rfl rfl rfl ?_ | refine M3 rfl rfl rfl ?_ | refine M4 rfl rfl rfl ?_ | refine M5 rfl rfl rfl (fun _ => ?_) (fun _ => ?_) | refine M6 rfl rfl rfl (fun _ => ?_) (fun _ => ?_)) | (refine IsBin ?_; first | refine B1 rfl rfl rfl rfl ?_ | refine B2 rfl rfl rfl rfl ?_ | refine B3 rfl rfl rfl rfl ?_ | refine B4 rfl rfl rfl rfl ?_ | refine B5 rfl rfl rfl rfl ?_ | refine B6 rfl rfl rfl rfl ?_ | refine B7 rfl rfl rfl rfl rfl ?_ | refine B8 rfl rfl rfl rfl rfl ?_ | refine B9 rfl rfl rfl rfl rfl rfl rfl ?_ | refine BA rfl rfl rfl rfl rfl rfl rfl ?_) | (refine IsConv ?_; refine C1 rfl rfl rfl rfl rfl ?_) | (refine IsLoad ?_; first | refine L1 rfl rfl rfl rfl ?_ | refine L2 rfl rfl rfl rfl rfl ?_) | (refine IsStore ?_; refine S1 rfl rfl rfl rfl rfl rfl rfl (fun _ => ?_)) | (refine IsBox ?_; refine N1 rfl rfl rfl rfl (fun _ => ?_)) | (refine IsAlloc ?_; refine N2 rfl rfl rfl rfl (fun _ => ?_)) | (refine IsBuild ?_; refine U1 rfl rfl rfl rfl rfl rfl ?_) | refine V1 rfl rfl rfl ?_) | (refine IsAt ?_; first | (with_reducible first | refine T1 ?_ | refine T2 ?_ | refine T3 ?_ | refine T4 ?_ | refine T5 ?_ | refine T6 ?_ | refine T7 ?_ | refine T8 ?_ | refine T9 ?_ | refine TA ?_ | refine TB ?_ | refine TC ?_) | ((with_reducible show At _ (PBlock _ _ (Exit.exit _)) _ _); first | refine At_block_hit ?_ | refine At_block_miss rfl ?_)) | (refine IsJ ?_; first | refine J_seq ?_ | refine J_region ?_ | refine J_block ?_ | refine J_skip ?_ | refine J_ret ?_ | refine J_exit ?_ | (refine IsCond ?_; first | refine J_cond_t rfl ?_ | refine J_cond_f rfl ?_ | refine K1 rfl ?_ | refine K2 rfl ?_ | refine K3 rfl ?_ | refine K4 rfl ?_ | refine J_cb rfl (fun _ => ?_) (fun _ => ?_) | refine J_nb rfl (fun _ => ?_) (fun _ => ?_))))
    refine JO_l (OL_appendz (m := os.length) rfl rfl rfl rfl rfl (hR.src (by repeat (first | exact .head _ | refine .tail _ ?_))) rfl (fun _ h => by cases h) (by omega) (by omega) (by decide)) rfl rfl ?_
    rintro _ _ ⟨a1, c1, rfl, rfl⟩
    repeat' (first | (refine IsO ?_; first | refine JO_nil ?_ | (refine IsG ?_; first | refine G1 rfl rfl ?_ | refine G2 rfl ?_) | (refine IsMove ?_; first | refine M1 rfl rfl rfl ?_ | refine M2 rfl rfl rfl ?_ | refine M3 rfl rfl rfl ?_ | refine M4 rfl rfl rfl ?_ | refine M5 rfl rfl rfl (fun _ => ?_) (fun _ => ?_) | refine M6 rfl rfl rfl (fun _ => ?_) (fun _ => ?_)) | (refine IsBin ?_; first | refine B1 rfl rfl rfl rfl ?_ | refine B2 rfl rfl rfl rfl ?_ | refine B3 rfl rfl rfl rfl ?_ | refine B4 rfl rfl rfl rfl ?_ | refine B5 rfl rfl rfl rfl ?_ | refine B6 rfl rfl rfl rfl ?_ | refine B7 rfl rfl rfl rfl rfl ?_ | refine B8 rfl rfl rfl rfl rfl ?_ | refine B9 rfl rfl rfl rfl rfl rfl rfl ?_ | refine BA rfl rfl rfl rfl rfl rfl rfl ?_) | (refine IsConv ?_; refine C1 rfl rfl rfl rfl rfl ?_) | (refine IsLoad ?_; first | refine L1 rfl rfl rfl rfl ?_ | refine L2 rfl rfl rfl rfl rfl ?_) | (refine IsStore ?_; refine S1 rfl rfl rfl rfl rfl rfl rfl (fun _ => ?_)) | (refine IsBox ?_; refine N1 rfl rfl rfl rfl (fun _ => ?_)) | (refine IsAlloc ?_; refine N2 rfl rfl rfl rfl (fun _ => ?_)) | (refine IsBuild ?_; refine U1 rfl rfl rfl rfl rfl rfl ?_) | refine V1 rfl rfl rfl ?_) | (refine IsAt ?_; first | (with_reducible first | refine T1 ?_ | refine T2 ?_ | refine T3 ?_ | refine T4 ?_ | refine T5 ?_ | refine T6 ?_ | refine T7 ?_ | refine T8 ?_ | refine T9 ?_ | refine TA ?_ | refine TB ?_ | refine TC ?_) | ((with_reducible show At _ (PBlock _ _ (Exit.exit _)) _ _); first | refine At_block_hit ?_ | refine At_block_miss rfl ?_)) | (refine IsJ ?_; first | refine J_seq ?_ | refine J_region ?_ | refine J_block ?_ | refine J_skip ?_ | refine J_ret ?_ | refine J_exit ?_ | (refine IsCond ?_; first | refine J_cond_t rfl ?_ | refine J_cond_f rfl ?_ | refine K1 rfl ?_ | refine K2 rfl ?_ | refine K3 rfl ?_ | refine K4 rfl ?_ | refine J_cb rfl (fun _ => ?_) (fun _ => ?_) | refine J_nb rfl (fun _ => ?_) (fun _ => ?_))))
    refine JO_l (OL_buildSlice (cs := []) rfl rfl rfl rfl rfl rfl rfl rfl) rfl rfl ?_
    rintro _ _ ⟨by', rfl, rfl⟩
    repeat' (first | (refine IsO ?_; first | refine JO_nil ?_ | (refine IsG ?_; first | refine G1 rfl rfl ?_ | refine G2 rfl ?_) | (refine IsMove ?_; first | refine M1 rfl rfl rfl ?_ | refine M2 rfl rfl rfl ?_ | refine M3 rfl rfl rfl ?_ | refine M4 rfl rfl rfl ?_ | refine M5 rfl rfl rfl (fun _ => ?_) (fun _ => ?_) | refine M6 rfl rfl rfl (fun _ => ?_) (fun _ => ?_)) | (refine IsBin ?_; first | refine B1 rfl rfl rfl rfl ?_ | refine B2 rfl rfl rfl rfl ?_ | refine B3 rfl rfl rfl rfl ?_ | refine B4 rfl rfl rfl rfl ?_ | refine B5 rfl rfl rfl rfl ?_ | refine B6 rfl rfl rfl rfl ?_ | refine B7 rfl rfl rfl rfl rfl ?_ | refine B8 rfl rfl rfl rfl rfl ?_ | refine B9 rfl rfl rfl rfl rfl rfl rfl ?_ | refine BA rfl rfl rfl rfl rfl rfl rfl ?_) | (refine IsConv ?_; refine C1 rfl rfl rfl rfl rfl ?_) | (refine IsLoad ?_; first | refine L1 rfl rfl rfl rfl ?_ | refine L2 rfl rfl rfl rfl rfl ?_) | (refine IsStore ?_; refine S1 rfl rfl rfl rfl rfl rfl rfl (fun _ => ?_)) | (refine IsBox ?_; refine N1 rfl rfl rfl rfl (fun _ => ?_)) | (refine IsAlloc ?_; refine N2 rfl rfl rfl rfl (fun _ => ?_)) | (refine IsBuild ?_; refine U1 rfl rfl rfl rfl rfl rfl ?_) | refine V1 rfl rfl rfl ?_) | (refine IsAt ?_; first | (with_reducible first | refine T1 ?_ | refine T2 ?_ | refine T3 ?_ | refine T4 ?_ | refine T5 ?_ | refine T6 ?_ | refine T7 ?_ | refine T8 ?_ | refine T9 ?_ | refine TA ?_ | refine TB ?_ | refine TC ?_) | ((with_reducible show At _ (PBlock _ _ (Exit.exit _)) _ _); first | refine At_block_hit ?_ | refine At_block_miss rfl ?_)) | (refine IsJ ?_; first | refine J_seq ?_ | refine J_region ?_ | refine J_block ?_ | refine J_skip ?_ | refine J_ret ?_ | refine J_exit ?_ | (refine IsCond ?_; first | refine J_cond_t rfl ?_ | refine J_cond_f rfl ?_ | refine K1 rfl ?_ | refine K2 rfl ?_ | refine K3 rfl ?_ | refine K4 rfl ?_ | refine J_cb rfl (fun _ => ?_) (fun _ => ?_) | refine J_nb rfl (fun _ => ?_) (fun _ => ?_))))
    refine JO_l (OL_appendz (m := o.ws.length) rfl rfl rfl rfl rfl ((RW.reads (List.mem_of_getElem? hj) ok).src (by repeat (first | exact .head _ | refine .tail _ ?_))) rfl (fun _ h => by cases h) (by omega) (by omega) (by decide)) rfl rfl ?_
    rintro _ _ ⟨a3, c3, rfl, rfl⟩
    refine JO_fact _ (fun w hs => rowz_len hs (.head _)) ?_
    rintro ⟨_, hn3, _⟩
    refine JO_fact _ (fun w hs => rowz_len hs (.tail _ (.tail _ (.head _)))) ?_
    rintro ⟨_, hn1, _⟩
    refine JO_hp (fun H hl => hl.pick (is := [0, 1, 2, 3, 3, 3]) rfl) ?_
    have hR1 : Reads (objsZ a1 c1 os) 5 os.length a1 c1 (os.flatMap cellsO) := Reads.rowz objs_len hn1
    have hR3 : Reads (rowz 3 1 a3 o.ws.length c3 (intsV o.ws)) 1 o.ws.length a3 c3 (intsV o.ws) := Reads.rowz (by simp) hn3
    refine JO_fact _ (fun w hs => hR1.some (by omega) hs (.tail _ (.head _))) ?_
    rintro ⟨b1, o1, rfl⟩
    refine JO_fact _ (fun w hs => hR3.some (by omega) hs (.head _)) ?_
    rintro ⟨b3, o3, rfl⟩
    refine JO_val (OV_idx (off := o1 + j * 5) rfl rfl rfl rfl (by omega) (by omega) (by simp)) rfl rfl ?_
    repeat' (first | (refine IsO ?_; first | refine JO_nil ?_ | (refine IsG ?_; first | refine G1 rfl rfl ?_ | refine G2 rfl ?_) | (refine IsMove ?_; first | refine M1 rfl rfl rfl ?_ | refine M2 rfl rfl rfl ?_ | refine M3 rfl rfl rfl ?_ | refine M4 rfl rfl rfl ?_ | refine M5 rfl rfl rfl (fun _ => ?_) (fun _ => ?_) | refine M6 rfl rfl rfl (fun _ => ?_) (fun _ => ?_)) | (refine IsBin ?_; first | refine B1 rfl rfl rfl rfl ?_ | refine B2 rfl rfl rfl rfl ?_ | refine B3 rfl rfl rfl rfl ?_ | refine B4 rfl rfl rfl rfl ?_ | refine B5 rfl rfl rfl rfl ?_ | refine B6 rfl rfl rfl rfl ?_ | refine B7 rfl rfl rfl rfl rfl ?_ | refine B8 rfl rfl rfl rfl rfl ?_ | refine B9 rfl rfl rfl rfl rfl rfl rfl ?_ | refine BA rfl rfl rfl rfl rfl rfl rfl ?_) | (refine IsConv ?_; refine C1 rfl rfl rfl rfl rfl ?_) | (refine IsLoad ?_; first | refine L1 rfl rfl rfl rfl ?_ | refine L2 rfl rfl rfl rfl rfl ?_) | (refine IsStore ?_; refine S1 rfl rfl rfl rfl rfl rfl rfl (fun _ => ?_)) | (refine IsBox ?_; refine N1 rfl rfl rfl rfl (fun _ => ?_)) | (refine IsAlloc ?_; refine N2 rfl rfl rfl rfl (fun _ => ?_)) | (refine IsBuild ?_; refine U1 rfl rfl rfl rfl rfl rfl ?_) | refine V1 rfl rfl rfl ?_) | (refine IsAt ?_; first | (with_reducible first | refine T1 ?_ | refine T2 ?_ | refine T3 ?_ | refine T4 ?_ | refine T5 ?_ | refine T6 ?_ | refine T7 ?_ | refine T8 ?_ | refine T9 ?_ | refine TA ?_ | refine TB ?_ | refine TC ?_) | ((with_reducible show At _ (PBlock _ _ (Exit.exit _)) _ _); first | refine At_block_hit ?_ | refine At_block_miss rfl ?_)) | (refine IsJ ?_; first | refine J_seq ?_ | refine J_region ?_ | refine J_block ?_ | refine J_skip ?_ | refine J_ret ?_ | refine J_exit ?_ | (refine IsCond ?_; first | refine J_cond_t rfl ?_ | refine J_cond_f rfl ?_ | refine K1 rfl ?_ | refine K2 rfl ?_ | refine K3 rfl ?_ | refine K4 rfl ?_ | refine J_cb rfl (fun _ => ?_) (fun _ => ?_) | refine J_nb rfl (fun _ => ?_) (fun _ => ?_))))
    refine JO_rowz (i := 1) rfl ?_ (fun h => absurd h (by omega))
    have hsl : (o.ws.set m word).length = o.ws.length := by simp
    have hput := put_words (o := o) (x := { o with ws := o.ws.set m word, wa := some ⟨b3, o3, none⟩, wc := c3 }) ⟨rfl, rfl, rfl, hsl⟩ hj
    dsimp only at hput
    rw [hsl] at hput
    refine JO_l0 (OL_storeR (k := j * 5 + 4) rfl rfl rfl rfl rfl rfl P0 hput) rfl ?_
    rintro _ _ rfl
    repeat' (first | (refine IsO ?_; first | refine JO_nil ?_ | (refine IsG ?_; first | refine G1 rfl rfl ?_ | refine G2 rfl ?_) | (refine IsMove ?_; first | refine M1 rfl rfl rfl ?_ | refine M2 rfl rfl rfl ?_ | refine M3 rfl rfl rfl ?_ | refine M4 rfl rfl rfl ?_ | refine M5 rfl rfl rfl (fun _ => ?_) (fun _ => ?_) | refine M6 rfl rfl rfl (fun _ => ?_) (fun _ => ?_)) | (refine IsBin ?_; first | refine B1 rfl rfl rfl rfl ?_ | refine B2 rfl rfl rfl rfl ?_ | refine B3 rfl rfl rfl rfl ?_ | refine B4 rfl rfl rfl rfl ?_ | refine B5 rfl rfl rfl rfl ?_ | refine B6 rfl rfl rfl rfl ?_ | refine B7 rfl rfl rfl rfl rfl ?_ | refine B8 rfl rfl rfl rfl rfl ?_ | refine B9 rfl rfl rfl rfl rfl rfl rfl ?_ | refine BA rfl rfl rfl rfl rfl rfl rfl ?_) | (refine IsConv ?_; refine C1 rfl rfl rfl rfl rfl ?_) | (refine IsLoad ?_; first | refine L1 rfl rfl rfl rfl ?_ | refine L2 rfl rfl rfl rfl rfl ?_) | (refine IsStore ?_; refine S1 rfl rfl rfl rfl rfl rfl rfl (fun _ => ?_)) | (refine IsBox ?_; refine N1 rfl rfl rfl rfl (fun _ => ?_)) | (refine IsAlloc ?_; refine N2 rfl rfl rfl rfl (fun _ => ?_)) | (refine IsBuild ?_; refine U1 rfl rfl rfl rfl rfl rfl ?_) | refine V1 rfl rfl rfl ?_) | (refine IsAt ?_; first | (with_reducible first | refine T1 ?_ | refine T2 ?_ | refine T3 ?_ | refine T4 ?_ | refine T5 ?_ | refine T6 ?_ | refine T7 ?_ | refine T8 ?_ | refine T9 ?_ | refine TA ?_ | refine TB ?_ | refine TC ?_) | ((with_reducible show At _ (PBlock _ _ (Exit.exit _)) _ _); first | refine At_block_hit ?_ | refine At_block_miss rfl ?_)) | (refine IsJ ?_; first | refine J_seq ?_ | refine J_region ?_ | refine J_block ?_ | refine J_skip ?_ | refine J_ret ?_ | refine J_exit ?_ | (refine IsCond ?_; first | refine J_cond_t rfl ?_ | refine J_cond_f rfl ?_ | refine K1 rfl ?_ | refine K2 rfl ?_ | refine K3 rfl ?_ | refine K4 rfl ?_ | refine J_cb rfl (fun _ => ?_) (fun _ => ?_) | refine J_nb rfl (fun _ => ?_) (fun _ => ?_))))
    refine JO_val (OV_idx (off := o1 + j * 5) rfl rfl rfl rfl (by omega) (by omega) (by simp)) rfl rfl ?_
    repeat' (first | (refine IsO ?_; first | refine JO_nil ?_ | (refine IsG ?_; first | refine G1 rfl rfl ?_ | refine G2 rfl ?_) | (refine IsMove ?_; first | refine M1 rfl rfl rfl ?_ | refine M2 rfl rfl rfl ?_ | refine M3 rfl rfl rfl ?_ | refine M4 rfl rfl rfl ?_ | refine M5 rfl rfl rfl (fun _ => ?_) (fun _ => ?_) | refine M6 rfl rfl rfl (fun _ => ?_) (fun _ => ?_)) | (refine IsBin ?_; first | refine B1 rfl rfl rfl rfl ?_ | refine B2 rfl rfl rfl rfl ?_ | refine B3 rfl rfl rfl rfl ?_ | refine B4 rfl rfl rfl rfl ?_ | refine B5 rfl rfl rfl rfl ?_ | refine B6 rfl rfl rfl rfl ?_ | refine B7 rfl rfl rfl rfl rfl ?_ | refine B8 rfl rfl rfl rfl rfl ?_ | refine B9 rfl rfl rfl rfl rfl rfl rfl ?_ | refine BA rfl rfl rfl rfl rfl rfl rfl ?_) | (refine IsConv ?_; refine C1 rfl rfl rfl rfl rfl ?_) | (refine IsLoad ?_; first | refine L1 rfl rfl rfl rfl ?_ | refine L2 rfl rfl rfl rfl rfl ?_) | (refine IsStore ?_; refine S1 rfl rfl rfl rfl rfl rfl rfl (fun _ => ?_)) | (refine IsBox ?_; refine N1 rfl rfl rfl rfl (fun _ => ?_)) | (refine IsAlloc ?_; refine N2 rfl rfl rfl rfl (fun _ => ?_)) | (refine IsBuild ?_; refine U1 rfl rfl rfl rfl rfl rfl ?_) | refine V1 rfl rfl rfl ?_) | (refine IsAt ?_; first | (with_reducible first | refine T1 ?_ | refine T2 ?_ | refine T3 ?_ | refine T4 ?_ | refine T5 ?_ | refine T6 ?_ | refine T7 ?_ | refine T8 ?_ | refine T9 ?_ | refine TA ?_ | refine TB ?_ | refine TC ?_) | ((with_reducible show At _ (PBlock _ _ (Exit.exit _)) _ _); first | refine At_block_hit ?_ | refine At_block_miss rfl ?_)) | (refine IsJ ?_; first | refine J_seq ?_ | refine J_region ?_ | refine J_block ?_ | refine J_skip ?_ | refine J_ret ?_ | refine J_exit ?_ | (refine IsCond ?_; first | refine J_cond_t rfl ?_ | refine J_cond_f rfl ?_ | refine K1 rfl ?_ | refine K2 rfl ?_ | refine K3 rfl ?_ | refine K4 rfl ?_ | refine J_cb rfl (fun _ => ?_) (fun _ => ?_) | refine J_nb rfl (fun _ => ?_) (fun _ => ?_))))
    have hjs : (os.set j { o with ws := o.ws.set m word, wa := some ⟨b3, o3, none⟩, wc := c3 })[j]? = some { o with ws := o.ws.set m word, wa := some ⟨b3, o3, none⟩, wc := c3 } := by rw [List.getElem?_set, if_pos rfl, if_pos hjl]
    have hR4 : Reads (row 47 5 (some ⟨b1, o1, none⟩) os.length c1 ((os.set j { o with ws := o.ws.set m word, wa := some ⟨b3, o3, none⟩, wc := c3 }).flatMap cellsO)) 5 os.length (some ⟨b1, o1, none⟩) c1 ((os.set j { o with ws := o.ws.set m word, wa := some ⟨b3, o3, none⟩, wc := c3 }).flatMap cellsO) := Reads.row (by rw [objs_len]; simp) hn1
    refine JO_q (OQ_read (i := j * 5 + 4) (v := .slice (some ⟨b3, o3, none⟩) o.ws.length c3) hR4 (.head _) rfl rfl (by omega) (by rw [objs_get hjs (by omega), ← hsl]; rfl)) rfl rfl ?_
    repeat' (first | (refine IsO ?_; first | refine JO_nil ?_ | (refine IsG ?_; first | refine G1 rfl rfl ?_ | refine G2 rfl ?_) | (refine IsMove ?_; first | refine M1 rfl rfl rfl ?_ | refine M2 rfl rfl rfl ?_ | refine M3 rfl rfl rfl ?_ | refine M4 rfl rfl rfl ?_ | refine M5 rfl rfl rfl (fun _ => ?_) (fun _ => ?_) | refine M6 rfl rfl rfl (fun _ => ?_) (fun _ => ?_)) | (refine IsBin ?_; first | refine B1 rfl rfl rfl rfl ?_ | refine B2 rfl rfl rfl rfl ?_ | refine B3 rfl rfl rfl rfl ?_ | refine B4 rfl rfl rfl rfl ?_ | refine B5 rfl rfl rfl rfl ?_ | refine B6 rfl rfl rfl rfl ?_ | refine B7 rfl rfl rfl rfl rfl ?_ | refine B8 rfl rfl rfl rfl rfl ?_ | refine B9 rfl rfl rfl rfl rfl rfl rfl ?_ | refine BA rfl rfl rfl rfl rfl rfl rfl ?_) | (refine IsConv ?_; refine C1 rfl rfl rfl rfl rfl ?_) | (refine IsLoad ?_; first | refine L1 rfl rfl rfl rfl ?_ | refine L2 rfl rfl rfl rfl rfl ?_) | (refine IsStore ?_; refine S1 rfl rfl rfl rfl rfl rfl rfl (fun _ => ?_)) | (refine IsBox ?_; refine N1 rfl rfl rfl rfl (fun _ => ?_)) | (refine IsAlloc ?_; refine N2 rfl rfl rfl rfl (fun _ => ?_)) | (refine IsBuild ?_; refine U1 rfl rfl rfl rfl rfl rfl ?_) | refine V1 rfl rfl rfl ?_) | (refine IsAt ?_; first | (with_reducible first | refine T1 ?_ | refine T2 ?_ | refine T3 ?_ | refine T4 ?_ | refine T5 ?_ | refine T6 ?_ | refine T7 ?_ | refine T8 ?_ | refine T9 ?_ | refine TA ?_ | refine TB ?_ | refine TC ?_) | ((with_reducible show At _ (PBlock _ _ (Exit.exit _)) _ _); first | refine At_block_hit ?_ | refine At_block_miss rfl ?_)) | (refine IsJ ?_; first | refine J_seq ?_ | refine J_region ?_ | refine J_block ?_ | refine J_skip ?_ | refine J_ret ?_ | refine J_exit ?_ | (refine IsCond ?_; first | refine J_cond_t rfl ?_ | refine J_cond_f rfl ?_ | refine K1 rfl ?_ | refine K2 rfl ?_ | refine K3 rfl ?_ | refine K4 rfl ?_ | refine J_cb rfl (fun _ => ?_) (fun _ => ?_) | refine J_nb rfl (fun _ => ?_) (fun _ => ?_))))
    refine JO_val (OV_idx (off := o3 + m) rfl rfl rfl rfl (by omega) (by omega) (by simp)) rfl rfl ?_
    refine JO_rowz (i := 1) rfl ?_ (fun h => absurd h (by omega))
    refine JO_l0 (OL_storeR rfl rfl rfl rfl rfl rfl P0 (putL_ints word (by omega))) rfl ?_
    rintro _ _ rfl
    repeat' (first | (refine IsO ?_; first | refine JO_nil ?_ | (refine IsG ?_; first | refine G1 rfl rfl ?_ | refine G2 rfl ?_) | (refine IsMove ?_; first | refine M1 rfl rfl rfl ?_ | refine M2 rfl rfl rfl ?_ | refine M3 rfl rfl rfl ?_ | refine M4 rfl rfl rfl ?_ | refine M5 rfl rfl rfl (fun _ => ?_) (fun _ => ?_) | refine M6 rfl rfl rfl (fun _ => ?_) (fun _ => ?_)) | (refine IsBin ?_; first | refine B1 rfl rfl rfl rfl ?_ | refine B2 rfl rfl rfl rfl ?_ | refine B3 rfl rfl rfl rfl ?_ | refine B4 rfl rfl rfl rfl ?_ | refine B5 rfl rfl rfl rfl ?_ | refine B6 rfl rfl rfl rfl ?_ | refine B7 rfl rfl rfl rfl rfl ?_ | refine B8 rfl rfl rfl rfl rfl ?_ | refine B9 rfl rfl rfl rfl rfl rfl rfl ?_ | refine BA rfl rfl rfl rfl rfl rfl rfl ?_) | (refine IsConv ?_; refine C1 rfl rfl rfl rfl rfl ?_) | (refine IsLoad ?_; first | refine L1 rfl rfl rfl rfl ?_ | refine L2 rfl rfl rfl rfl rfl ?_) | (refine IsStore ?_; refine S1 rfl rfl rfl rfl rfl rfl rfl (fun _ => ?_)) | (refine IsBox ?_; refine N1 rfl rfl rfl rfl (fun _ => ?_)) | (refine IsAlloc ?_; refine N2 rfl rfl rfl rfl (fun _ => ?_)) | (refine IsBuild ?_; refine U1 rfl rfl rfl rfl rfl rfl ?_) | refine V1 rfl rfl rfl ?_) | (refine IsAt ?_; first | (with_reducible first | refine T1 ?_ | refine T2 ?_ | refine T3 ?_ | refine T4 ?_ | refine T5 ?_ | refine T6 ?_ | refine T7 ?_ | refine T8 ?_ | refine T9 ?_ | refine TA ?_ | refine TB ?_ | refine TC ?_) | ((with_reducible show At _ (PBlock _ _ (Exit.exit _)) _ _); first | refine At_block_hit ?_ | refine At_block_miss rfl ?_)) | (refine IsJ ?_; first | refine J_seq ?_ | refine J_region ?_ | refine J_block ?_ | refine J_skip ?_ | refine J_ret ?_ | refine J_exit ?_ | (refine IsCond ?_; first | refine J_cond_t rfl ?_ | refine J_cond_f rfl ?_ | refine K1 rfl ?_ | refine K2 rfl ?_ | refine K3 rfl ?_ | refine K4 rfl ?_ | refine J_cb rfl (fun _ => ?_) (fun _ => ?_) | refine J_nb rfl (fun _ => ?_) (fun _ => ?_))))
    have e3 : (os.set j { o with ws := o.ws.set m word, wa := some ⟨b3, o3, none⟩, wc := c3 }).length = os.length := by simp
    refine At_ret' rfl rfl (.agg rfl rfl rfl (by repeat (first | exact .head _ | refine .tail _ ?_)) rfl (.tmp rfl .nil)) rfl (fun H hl => ?_) ⟨some ⟨b1, o1, none⟩, c1, os.set j { o with ws := o.ws.set m word, wa := some ⟨b3, o3, none⟩, wc := c3 }, Ch.write hm hc hj, by rw [e3]; rfl, rfl⟩
    have h1 := hl.pick (is := [2, 4, 2]) rfl
    have h2 := RW.to (news := [{ o with ws := o.ws.set m word, wa := some ⟨b3, o3, none⟩, wc := c3 }]) (os := os) (os' := os.set j { o with ws := o.ws.set m word, wa := some ⟨b3, o3, none⟩, wc := c3 }) (dr := [o]) (perm_set hj) (by
      show Stars (rowz 3 1 (some ⟨b3, o3, none⟩) (o.ws.set m word).length c3 (intsV (o.ws.set m word)) :: _) H
      rw [hsl]
      exact rowz_row h1)
    unfold refL objsZ
    rw [e3]
    exact rowz_row h2.swap
end ops
end Go.Proofs.Ytahfnbpbdnmggaa
/-
  Our own: the document's heaps (besomref01): Place.
-/
set_option linter.unusedVariables false
set_option linter.unusedSimpArgs false
namespace Go.Proofs.Ytahfnbpbdnmggaa
open Go.Sep
theorem rowO_new {bw k i : Nat} {kd pt : Int} {l : List HP} {H : PH} (h : Stars (blk bw (List.replicate k (.int .i64 0)) 3 :: l) H) : Stars (rowO ⟨i, kd, pt, List.replicate k 0, some ⟨bw, 0, none⟩, k⟩ :: l) H := by
  have h2 := rowz_row (row_full (n := k) (sz := 1) h (by simp))
  have e : List.replicate k (Value.int .i64 0) = intsV (List.replicate k 0) := by simp [intsV]
  rw [e] at h2
  show Stars (rowz 3 1 (some ⟨bw, 0, none⟩) (List.replicate k (0 : Int)).length k (intsV (List.replicate k 0)) :: l) H
  rw [List.length_replicate]
  exact h2
section ops
variable {a : Option Addr} {cap : Nat} {os : List RO} {n T : Nat} {ws : List Int}
set_option maxHeartbeats 8000000 in
theorem refPlace_ok (kd pt : Int) (k : Nat) (hc : Ch ws 0 os T) (hT : T ≤ n) (hn : n ≤ 65536) (hg : goodB kd k pt = true) (hf : T + 1 + k ≤ n) : Does Try.prog 32 [refV n a os.length cap, headV kd k pt] (refL a cap os)
    (fun v l => ∃ a' cap' wa wc, v = .tuple #[refV n a' (os ++ [(⟨T, kd, pt, List.replicate k 0, wa, wc⟩ : RO)]).length cap', .int .i64 T, .int .i64 0] ∧ l = refL a' cap' (os ++ [⟨T, kd, pt, List.replicate k 0, wa, wc⟩])) := by
  have hgb := of_decide_eq_true hg
  have hlen := hc.len
  refine Does.of tiok Try.func32 (by kernel_rfl) rfl Try.ntmps32 rfl ?_
  intro W fr
  refine J_rowzf P0 ?_
  rintro ⟨hl, hnn, hcc⟩
  have hR : Reads (objsZ a cap os) 5 os.length a cap (os.flatMap cellsO) := Reads.rowz hl hnn
  repeat' (first | (refine IsO ?_; first | refine JO_nil ?_ | (refine IsG ?_; first | refine G1 rfl rfl ?_ | refine G2 rfl ?_) | (refine IsMove ?_; first | refine M1 rfl rfl rfl ?_ | refine M2 rfl rfl rfl ?_ | refine M3 rfl rfl rfl ?_ | refine M4 rfl rfl rfl ?_ | refine M5 rfl rfl rfl (fun _ => ?_) (fun _ => ?_) | refine M6 rfl rfl rfl (fun _ => ?_) (fun _ => ?_)) | (refine IsBin ?_; first | refine B1 rfl rfl rfl rfl ?_ | refine B2 rfl rfl rfl rfl ?_ | refine B3 rfl rfl rfl rfl ?_ | refine B4 rfl rfl rfl rfl ?_ | refine B5 rfl rfl rfl rfl ?_ | refine B6 rfl rfl rfl rfl ?_ | refine B7 rfl rfl rfl rfl rfl ?_ | refine B8 rfl rfl rfl rfl rfl ?_ | refine B9 rfl rfl rfl rfl rfl rfl rfl ?_ | refine BA rfl rfl rfl rfl rfl rfl rfl ?_) | (refine IsConv ?_; refine C1 rfl rfl rfl rfl rfl ?_) | (refine IsLoad ?_; first | refine L1 rfl rfl rfl rfl ?_ | refine L2 rfl rfl rfl rfl rfl ?_) | (refine IsStore ?_; refine S1 rfl rfl rfl rfl rfl rfl rfl (fun _ => ?_)) | (refine IsBox ?_; refine N1 rfl rfl rfl rfl (fun _ => ?_)) | (refine IsAlloc ?_; refine N2 rfl rfl rfl rfl (fun _ => ?_)) | (refine IsBuild ?_; refine U1 rfl rfl rfl rfl rfl rfl ?_) | refine V1 rfl rfl rfl ?_) | (refine IsAt ?_; first | (with_reducible first | refine T1 ?_ | refine T2 ?_ | refine T3 ?_ | refine T4 ?_ | refine T5 ?_ | refine T6 ?_ | refine T7 ?_ | refine T8 ?_ | refine T9 ?_ | refine TA ?_ | refine TB ?_ | refine TC ?_) | ((with_reducible show At _ (PBlock _ _ (Exit.exit _)) _ _); first | refine At_block_hit ?_ | refine At_block_miss rfl ?_)) | (refine IsJ ?_; first | refine J_seq ?_ | refine J_region ?_ | refine J_block ?_ | refine J_skip ?_ | refine J_ret ?_ | refine J_exit ?_ | (refine IsCond ?_; first | refine J_cond_t rfl ?_ | refine J_cond_f rfl ?_ | refine K1 rfl ?_ | refine K2 rfl ?_ | refine K3 rfl ?_ | refine K4 rfl ?_ | refine J_cb rfl (fun _ => ?_) (fun _ => ?_) | refine J_nb rfl (fun _ => ?_) (fun _ => ?_))))
  rename_i b2 b3 b4
  refine JO_l (OL_call [] rfl rfl rfl (refGood_spec kd k pt) rfl) rfl rfl ?_; rintro _ _ ⟨_, ⟨rfl, rfl⟩, rfl⟩
  rw [hg]
  repeat' (first | (refine IsO ?_; first | refine JO_nil ?_ | (refine IsG ?_; first | refine G1 rfl rfl ?_ | refine G2 rfl ?_) | (refine IsMove ?_; first | refine M1 rfl rfl rfl ?_ | refine M2 rfl rfl rfl ?_ | refine M3 rfl rfl rfl ?_ | refine M4 rfl rfl rfl ?_ | refine M5 rfl rfl rfl (fun _ => ?_) (fun _ => ?_) | refine M6 rfl rfl rfl (fun _ => ?_) (fun _ => ?_)) | (refine IsBin ?_; first | refine B1 rfl rfl rfl rfl ?_ | refine B2 rfl rfl rfl rfl ?_ | refine B3 rfl rfl rfl rfl ?_ | refine B4 rfl rfl rfl rfl ?_ | refine B5 rfl rfl rfl rfl ?_ | refine B6 rfl rfl rfl rfl ?_ | refine B7 rfl rfl rfl rfl rfl ?_ | refine B8 rfl rfl rfl rfl rfl ?_ | refine B9 rfl rfl rfl rfl rfl rfl rfl ?_ | refine BA rfl rfl rfl rfl rfl rfl rfl ?_) | (refine IsConv ?_; refine C1 rfl rfl rfl rfl rfl ?_) | (refine IsLoad ?_; first | refine L1 rfl rfl rfl rfl ?_ | refine L2 rfl rfl rfl rfl rfl ?_) | (refine IsStore ?_; refine S1 rfl rfl rfl rfl rfl rfl rfl (fun _ => ?_)) | (refine IsBox ?_; refine N1 rfl rfl rfl rfl (fun _ => ?_)) | (refine IsAlloc ?_; refine N2 rfl rfl rfl rfl (fun _ => ?_)) | (refine IsBuild ?_; refine U1 rfl rfl rfl rfl rfl rfl ?_) | refine V1 rfl rfl rfl ?_) | (refine IsAt ?_; first | (with_reducible first | refine T1 ?_ | refine T2 ?_ | refine T3 ?_ | refine T4 ?_ | refine T5 ?_ | refine T6 ?_ | refine T7 ?_ | refine T8 ?_ | refine T9 ?_ | refine TA ?_ | refine TB ?_ | refine TC ?_) | ((with_reducible show At _ (PBlock _ _ (Exit.exit _)) _ _); first | refine At_block_hit ?_ | refine At_block_miss rfl ?_)) | (refine IsJ ?_; first | refine J_seq ?_ | refine J_region ?_ | refine J_block ?_ | refine J_skip ?_ | refine J_ret ?_ | refine J_exit ?_ | (refine IsCond ?_; first | refine J_cond_t rfl ?_ | refine J_cond_f rfl ?_ | refine K1 rfl ?_ | refine K2 rfl ?_ | refine K3 rfl ?_ | refine K4 rfl ?_ | refine J_cb rfl (fun _ => ?_) (fun _ => ?_) | refine J_nb rfl (fun _ => ?_) (fun _ => ?_))))
  refine JO_l (OL_call [3, 3] rfl rfl rfl (Top_spec _ hc (by omega)) rfl) rfl rfl ?_; rintro _ _ ⟨_, ⟨rfl, rfl⟩, rfl⟩
  repeat' (first | (refine IsO ?_; first | refine JO_nil ?_ | (refine IsG ?_; first | refine G1 rfl rfl ?_ | refine G2 rfl ?_) | (refine IsMove ?_; first | refine M1 rfl rfl rfl ?_ | refine M2 rfl rfl rfl ?_ | refine M3 rfl rfl rfl ?_ | refine M4 rfl rfl rfl ?_ | refine M5 rfl rfl rfl (fun _ => ?_) (fun _ => ?_) | refine M6 rfl rfl rfl (fun _ => ?_) (fun _ => ?_)) | (refine IsBin ?_; first | refine B1 rfl rfl rfl rfl ?_ | refine B2 rfl rfl rfl rfl ?_ | refine B3 rfl rfl rfl rfl ?_ | refine B4 rfl rfl rfl rfl ?_ | refine B5 rfl rfl rfl rfl ?_ | refine B6 rfl rfl rfl rfl ?_ | refine B7 rfl rfl rfl rfl rfl ?_ | refine B8 rfl rfl rfl rfl rfl ?_ | refine B9 rfl rfl rfl rfl rfl rfl rfl ?_ | refine BA rfl rfl rfl rfl rfl rfl rfl ?_) | (refine IsConv ?_; refine C1 rfl rfl rfl rfl rfl ?_) | (refine IsLoad ?_; first | refine L1 rfl rfl rfl rfl ?_ | refine L2 rfl rfl rfl rfl rfl ?_) | (refine IsStore ?_; refine S1 rfl rfl rfl rfl rfl rfl rfl (fun _ => ?_)) | (refine IsBox ?_; refine N1 rfl rfl rfl rfl (fun _ => ?_)) | (refine IsAlloc ?_; refine N2 rfl rfl rfl rfl (fun _ => ?_)) | (refine IsBuild ?_; refine U1 rfl rfl rfl rfl rfl rfl ?_) | refine V1 rfl rfl rfl ?_) | (refine IsAt ?_; first | (with_reducible first | refine T1 ?_ | refine T2 ?_ | refine T3 ?_ | refine T4 ?_ | refine T5 ?_ | refine T6 ?_ | refine T7 ?_ | refine T8 ?_ | refine T9 ?_ | refine TA ?_ | refine TB ?_ | refine TC ?_) | ((with_reducible show At _ (PBlock _ _ (Exit.exit _)) _ _); first | refine At_block_hit ?_ | refine At_block_miss rfl ?_)) | (refine IsJ ?_; first | refine J_seq ?_ | refine J_region ?_ | refine J_block ?_ | refine J_skip ?_ | refine J_ret ?_ | refine J_exit ?_ | (refine IsCond ?_; first | refine J_cond_t rfl ?_ | refine J_cond_f rfl ?_ | refine K1 rfl ?_ | refine K2 rfl ?_ | refine K3 rfl ?_ | refine K4 rfl ?_ | refine J_cb rfl (fun _ => ?_) (fun _ => ?_) | refine J_nb rfl (fun _ => ?_) (fun _ => ?_))))
  let H2 : HP := blk b2 [.int .i64 n, .slice a os.length cap] 33
  let H3 : HP := blk b3 [.int .i64 kd, .int .i64 k, .int .i64 pt] 45
  let H4 : HP := blk b4 [.int .i64 0, .slice none 0 0] 33
  let PT : Plan := .l1 11 (.q 12 (.l1 13 .fin))
  let P038 : Plan := .l1 10 PT
  let P0810 : Plan := .l1 3 PT
  let P08 : Plan := .l2 3 P038 10 P0810
  refine J_plan [H2, H3] (fun H hl => hl.pick (is := [4, 3]) rfl) [2, 0, 5, 2, 0, 5, 0, 5, 2, 0, 2, 2, 0, 6]
    (.q 1 (.q 2 (.q 4 (.q 5 (.q 6 (.q 7 (.l2 0 (.l2 3 (.l1 8 (.q 9 P038)) 8 (.q 9 P08)) 8 (.q 9 (.l2 0 P08 10 (.l1 0 P0810)))))))))) (by kernel_rfl) (by kernel_rfl) ?_
  repeat' (refine IsF ?_; first | (refine JF_fin ?_; refine At_np ?_) | (refine JF_op rfl ?_; refine FsO ?_; first | (refine FsBin ?_; first | refine FB1 rfl rfl rfl rfl ?_ | refine FB2 rfl rfl rfl rfl ?_ | refine FB3 rfl rfl rfl rfl ?_ | refine FB4 rfl rfl rfl rfl ?_ | refine FB5 rfl rfl rfl rfl ?_ | refine FB6 rfl rfl rfl rfl ?_ | refine FB7 rfl rfl rfl rfl rfl ?_ | refine FB8 rfl rfl rfl rfl rfl ?_ | refine FB9 rfl rfl rfl rfl rfl rfl rfl ?_ | refine FBA rfl rfl rfl rfl rfl rfl rfl ?_) | (refine FsLoad ?_; first | refine FL1k rfl rfl rfl rfl rfl ?_ | refine FL2k rfl rfl rfl rfl rfl rfl ?_) | (refine FsBuild ?_; refine FU1 rfl rfl rfl rfl rfl rfl ?_) | refine FV1 rfl rfl rfl ?_))
  let OC : Nat → List Value := fun bw => [.int .i64 T, .int .i64 kd, .int .i64 k, .int .i64 pt, .slice (some ⟨bw, 0, none⟩) k k]
  let WB : Nat → HP := fun bw => blk bw (List.replicate k (.int .i64 0)) 3
  refine JF_cut (α := Option Addr × Nat × Nat × Nat) PT
    (fun z => [(2, ptr b2 0), (3, ptr b3 0), (4, ptr b4 0), (7, .int .i64 T), (26, .slice z.1 os.length z.2.1), (33, .slice (some ⟨z.2.2.1, 0, none⟩) 1 1)])
    (fun z => [objsZ z.1 z.2.1 os, blk z.2.2.1 (OC z.2.2.2) 47, WB z.2.2.2, H2, H3, H4, RW os]) (fun tail => ?_) ?_
  · refine JF_cut (α := Option Addr × Nat × Nat) P038
      (fun z => [(2, ptr b2 0), (3, ptr b3 0), (4, ptr b4 0), (7, .int .i64 T), (26, .slice z.1 os.length z.2.1), (32, .agg (OC z.2.2).toArray)])
      (fun z => [objsZ z.1 z.2.1 os, WB z.2.2, H2, H3, H4, RW os]) (fun s038 => ?_) ?_
    · refine JF_cut (α := Nat × Nat × Nat) P0810
        (fun z => [(2, ptr b2 0), (3, ptr b3 0), (4, ptr b4 0), (7, .int .i64 T), (23, .slice (some ⟨z.1, 0, none⟩) 0 0), (25, .slice a os.length cap), (33, .slice (some ⟨z.2.1, 0, none⟩) 1 1)])
        (fun z => [blk z.1 [] 47, blk z.2.1 (OC z.2.2) 47, WB z.2.2, H2, H3, H4, objsZ a cap os, RW os]) (fun s0810 => ?_) ?_
      · refine JF_cut (α := Nat × Nat) P08
          (fun z => [(2, ptr b2 0), (3, ptr b3 0), (4, ptr b4 0), (7, .int .i64 T), (23, .slice (some ⟨z.1, 0, none⟩) 0 0), (25, .slice a os.length cap), (32, .agg (OC z.2).toArray)])
          (fun z => [blk z.1 [] 47, WB z.2, H2, H3, H4, objsZ a cap os, RW os]) (fun s08 => ?_) ?_
        · refine JF_l2 ?_ ?_
          · refine JFO_l rfl (OL_buildSlice (cs := []) rfl rfl rfl rfl rfl rfl rfl rfl) rfl rfl (.inr ?_) ?_
            · rintro _ _ ⟨_, rfl, rfl⟩ H hl
              exact hl.pick (is := [5, 4]) rfl
            rintro _ _ ⟨bz, rfl, rfl⟩ _
            refine JF_l2 ?_ ?_
            · refine JFO_l rfl (OL_appendz (m := os.length) rfl rfl rfl rfl rfl (hR.src (by repeat (first | exact .head _ | refine .tail _ ?_))) rfl (fun _ h => by cases h) (by omega) (by omega) (by decide)) rfl rfl (.inr ?_) ?_
              · rintro _ _ ⟨_, _, rfl, rfl⟩ H hl
                exact hl.pick (is := [6, 5]) rfl
              rintro _ _ ⟨a1, c1, rfl, rfl⟩ _
              refine JF_l1 (JFO_l rfl (OL_makeN rfl rfl rfl rfl (by omega) (by omega)) rfl rfl (.inr ?_) ?_)
              · rintro _ _ ⟨_, rfl, rfl⟩ H hl
                exact hl.pick (is := [7, 6]) rfl
              rintro _ _ ⟨bw, rfl, rfl⟩ _
              repeat' (refine IsF ?_; first | (refine JF_fin ?_; refine At_np ?_) | (refine JF_op rfl ?_; refine FsO ?_; first | (refine FsBin ?_; first | refine FB1 rfl rfl rfl rfl ?_ | refine FB2 rfl rfl rfl rfl ?_ | refine FB3 rfl rfl rfl rfl ?_ | refine FB4 rfl rfl rfl rfl ?_ | refine FB5 rfl rfl rfl rfl ?_ | refine FB6 rfl rfl rfl rfl ?_ | refine FB7 rfl rfl rfl rfl rfl ?_ | refine FB8 rfl rfl rfl rfl rfl ?_ | refine FB9 rfl rfl rfl rfl rfl rfl rfl ?_ | refine FBA rfl rfl rfl rfl rfl rfl rfl ?_) | (refine FsLoad ?_; first | refine FL1k rfl rfl rfl rfl rfl ?_ | refine FL2k rfl rfl rfl rfl rfl rfl ?_) | (refine FsBuild ?_; refine FU1 rfl rfl rfl rfl rfl rfl ?_) | refine FV1 rfl rfl rfl ?_))
              exact JF_to (by repeat (first | exact True.intro | refine And.intro rfl ?_)) (fun H hl => hl.pick (is := [1, 0, 5, 4, 3, 2]) rfl) (fun H hl => hl.pick (is := [2, 2]) rfl) (s038 (a1, c1, bw))
            · refine JFO_l rfl (OL_makeN rfl rfl rfl rfl (by omega) (by omega)) rfl rfl (.inr ?_) ?_
              · rintro _ _ ⟨_, rfl, rfl⟩ H hl
                exact hl.pick (is := [6, 5]) rfl
              rintro _ _ ⟨bw, rfl, rfl⟩ _
              repeat' (refine IsF ?_; first | (refine JF_fin ?_; refine At_np ?_) | (refine JF_op rfl ?_; refine FsO ?_; first | (refine FsBin ?_; first | refine FB1 rfl rfl rfl rfl ?_ | refine FB2 rfl rfl rfl rfl ?_ | refine FB3 rfl rfl rfl rfl ?_ | refine FB4 rfl rfl rfl rfl ?_ | refine FB5 rfl rfl rfl rfl ?_ | refine FB6 rfl rfl rfl rfl ?_ | refine FB7 rfl rfl rfl rfl rfl ?_ | refine FB8 rfl rfl rfl rfl rfl ?_ | refine FB9 rfl rfl rfl rfl rfl rfl rfl ?_ | refine FBA rfl rfl rfl rfl rfl rfl rfl ?_) | (refine FsLoad ?_; first | refine FL1k rfl rfl rfl rfl rfl ?_ | refine FL2k rfl rfl rfl rfl rfl rfl ?_) | (refine FsBuild ?_; refine FU1 rfl rfl rfl rfl rfl rfl ?_) | refine FV1 rfl rfl rfl ?_))
              exact JF_to (by repeat (first | exact True.intro | refine And.intro rfl ?_)) (fun H hl => hl.pick (is := [1, 0, 4, 3, 2, 0, 0]) rfl) (fun H hl => hl.pick (is := [2, 2]) rfl) (s08 (bz, bw))
          · refine JFO_l rfl (OL_makeN rfl rfl rfl rfl (by omega) (by omega)) rfl rfl (.inr ?_) ?_
            · rintro _ _ ⟨_, rfl, rfl⟩ H hl
              exact hl.pick (is := [5, 4]) rfl
            rintro _ _ ⟨bw, rfl, rfl⟩ _
            repeat' (refine IsF ?_; first | (refine JF_fin ?_; refine At_np ?_) | (refine JF_op rfl ?_; refine FsO ?_; first | (refine FsBin ?_; first | refine FB1 rfl rfl rfl rfl ?_ | refine FB2 rfl rfl rfl rfl ?_ | refine FB3 rfl rfl rfl rfl ?_ | refine FB4 rfl rfl rfl rfl ?_ | refine FB5 rfl rfl rfl rfl ?_ | refine FB6 rfl rfl rfl rfl ?_ | refine FB7 rfl rfl rfl rfl rfl ?_ | refine FB8 rfl rfl rfl rfl rfl ?_ | refine FB9 rfl rfl rfl rfl rfl rfl rfl ?_ | refine FBA rfl rfl rfl rfl rfl rfl rfl ?_) | (refine FsLoad ?_; first | refine FL1k rfl rfl rfl rfl rfl ?_ | refine FL2k rfl rfl rfl rfl rfl rfl ?_) | (refine FsBuild ?_; refine FU1 rfl rfl rfl rfl rfl rfl ?_) | refine FV1 rfl rfl rfl ?_))
            refine JF_l2 ?_ ?_
            · refine JFO_l rfl (OL_buildSlice (cs := []) rfl rfl rfl rfl rfl rfl rfl rfl) rfl rfl (.inr ?_) ?_
              · rintro _ _ ⟨_, rfl, rfl⟩ H hl
                exact hl.pick (is := [6, 5]) rfl
              rintro _ _ ⟨bz, rfl, rfl⟩ _
              exact JF_to (by repeat (first | exact True.intro | refine And.intro rfl ?_)) (fun H hl => hl.pick (is := [0, 0, 4, 3, 2, 0, 0]) rfl) (fun H hl => hl.pick (is := [2, 2]) rfl) (s08 (bz, bw))
            · refine JFO_l rfl (OL_buildSlice (cs := OC bw) rfl rfl rfl rfl rfl rfl rfl rfl) rfl rfl (.inr ?_) ?_
              · rintro _ _ ⟨_, rfl, rfl⟩ H hl
                exact hl.pick (is := [6, 5]) rfl
              rintro _ _ ⟨bb, rfl, rfl⟩ _
              refine JF_l1 (JFO_l rfl (OL_buildSlice (cs := []) rfl rfl rfl rfl rfl rfl rfl rfl) rfl rfl (.inr ?_) ?_)
              · rintro _ _ ⟨_, rfl, rfl⟩ H hl
                exact hl.pick (is := [7, 6]) rfl
              rintro _ _ ⟨bz, rfl, rfl⟩ _
              exact JF_to (by repeat (first | exact True.intro | refine And.intro rfl ?_)) (fun H hl => hl.pick (is := [0, 0, 0, 4, 3, 2, 0, 0]) rfl) (fun H hl => hl.pick (is := [3, 3]) rfl) (s0810 (bz, bb, bw))
        · rintro ⟨bz, bw⟩
          refine JF_l2 ?_ ?_
          · refine JFO_l rfl (OL_appendz (m := os.length) rfl rfl rfl rfl rfl (hR.src (by repeat (first | exact .head _ | refine .tail _ ?_))) rfl (fun _ h => by cases h) (by omega) (by omega) (by decide)) rfl rfl (.inr ?_) ?_
            · rintro _ _ ⟨_, _, rfl, rfl⟩ H hl
              exact hl.pick (is := [3, 3]) rfl
            rintro _ _ ⟨a1, c1, rfl, rfl⟩ _
            exact JF_to (by repeat (first | exact True.intro | refine And.intro rfl ?_)) (fun H hl => hl.pick (is := [0, 1, 1, 1, 1, 2]) rfl) (fun H hl => hl.pick (is := [2, 2]) rfl) (s038 (a1, c1, bw))
          · refine JFO_l rfl (OL_buildSlice (cs := OC bw) rfl rfl rfl rfl rfl rfl rfl rfl) rfl rfl (.inr ?_) ?_
            · rintro _ _ ⟨_, rfl, rfl⟩ H hl
              exact hl.pick (is := [3, 3]) rfl
            rintro _ _ ⟨bb, rfl, rfl⟩ _
            exact JF_to (by repeat (first | exact True.intro | refine And.intro rfl ?_)) (fun H hl => hl.pick (is := [1, 0, 0, 0, 0, 0, 0, 0]) rfl) (fun H hl => hl.pick (is := [3, 3]) rfl) (s0810 (bz, bb, bw))
      · rintro ⟨bz, bb, bw⟩
        refine JF_l1 (JFO_l rfl (OL_appendz (m := os.length) rfl rfl rfl rfl rfl (hR.src (by repeat (first | exact .head _ | refine .tail _ ?_))) rfl (fun _ h => by cases h) (by omega) (by omega) (by decide)) rfl rfl (.inr ?_) ?_)
        · rintro _ _ ⟨_, _, rfl, rfl⟩ H hl
          exact hl.pick (is := [4, 4]) rfl
        rintro _ _ ⟨a1, c1, rfl, rfl⟩ _
        exact JF_to (by repeat (first | exact True.intro | refine And.intro rfl ?_)) (fun H hl => hl.pick (is := [0, 1, 1, 1, 1, 1, 2]) rfl) (fun H hl => hl.pick (is := [3, 3]) rfl) (tail (a1, c1, bb, bw))
    · rintro ⟨a1, c1, bw⟩
      refine JF_l1 (JFO_l rfl (OL_buildSlice (cs := OC bw) rfl rfl rfl rfl rfl rfl rfl rfl) rfl rfl (.inr ?_) ?_)
      · rintro _ _ ⟨_, rfl, rfl⟩ H hl
        exact hl.pick (is := [3, 3]) rfl
      rintro _ _ ⟨bb, rfl, rfl⟩ _
      exact JF_to (by repeat (first | exact True.intro | refine And.intro rfl ?_)) (fun H hl => hl.pick (is := [1, 0, 0, 0, 0, 0, 0]) rfl) (fun H hl => hl.pick (is := [3, 3]) rfl) (tail (a1, c1, bb, bw))
  · rintro ⟨a1, c1, bb, bw⟩
    refine JF_l1 (JFO_l rfl (OL_appendr (m := 1) rfl rfl rfl rfl rfl P0 ((Reads.blk rfl).src (.tail _ (.head _))) rfl rfl (fun _ h => by cases h) (by omega) (by omega) (by decide)) rfl rfl (.inr ?_) ?_)
    · rintro _ _ ⟨_, _, rfl, rfl⟩ H hl
      exact hl.pick (is := [3, 3]) rfl
    rintro _ _ ⟨a2, c2, rfl, rfl⟩ _
    repeat' (refine IsF ?_; first | (refine JF_fin ?_; refine At_np ?_) | (refine JF_op rfl ?_; refine FsO ?_; first | (refine FsBin ?_; first | refine FB1 rfl rfl rfl rfl ?_ | refine FB2 rfl rfl rfl rfl ?_ | refine FB3 rfl rfl rfl rfl ?_ | refine FB4 rfl rfl rfl rfl ?_ | refine FB5 rfl rfl rfl rfl ?_ | refine FB6 rfl rfl rfl rfl ?_ | refine FB7 rfl rfl rfl rfl rfl ?_ | refine FB8 rfl rfl rfl rfl rfl ?_ | refine FB9 rfl rfl rfl rfl rfl rfl rfl ?_ | refine FBA rfl rfl rfl rfl rfl rfl rfl ?_) | (refine FsLoad ?_; first | refine FL1k rfl rfl rfl rfl rfl ?_ | refine FL2k rfl rfl rfl rfl rfl rfl ?_) | (refine FsBuild ?_; refine FU1 rfl rfl rfl rfl rfl rfl ?_) | refine FV1 rfl rfl rfl ?_))
    refine JF_l1 (JFO_l0 rfl (OL_store rfl rfl rfl rfl rfl rfl (by first | exact P0 | exact P1 | exact P2 | exact P3 | exact P4 | exact P5 | exact P6 | exact P7) (by rfl)) rfl (.inl rfl) ?_)
    rintro _ _ rfl _
    repeat' (refine IsF ?_; first | (refine JF_fin ?_; refine At_np ?_) | (refine JF_op rfl ?_; refine FsO ?_; first | (refine FsBin ?_; first | refine FB1 rfl rfl rfl rfl ?_ | refine FB2 rfl rfl rfl rfl ?_ | refine FB3 rfl rfl rfl rfl ?_ | refine FB4 rfl rfl rfl rfl ?_ | refine FB5 rfl rfl rfl rfl ?_ | refine FB6 rfl rfl rfl rfl ?_ | refine FB7 rfl rfl rfl rfl rfl ?_ | refine FB8 rfl rfl rfl rfl rfl ?_ | refine FB9 rfl rfl rfl rfl rfl rfl rfl ?_ | refine FBA rfl rfl rfl rfl rfl rfl rfl ?_) | (refine FsLoad ?_; first | refine FL1k rfl rfl rfl rfl rfl ?_ | refine FL2k rfl rfl rfl rfl rfl rfl ?_) | (refine FsBuild ?_; refine FU1 rfl rfl rfl rfl rfl rfl ?_) | refine FV1 rfl rfl rfl ?_))
    repeat' (first | (refine IsO ?_; first | refine JO_nil ?_ | (refine IsG ?_; first | refine G1 rfl rfl ?_ | refine G2 rfl ?_) | (refine IsMove ?_; first | refine M1 rfl rfl rfl ?_ | refine M2 rfl rfl rfl ?_ | refine M3 rfl rfl rfl ?_ | refine M4 rfl rfl rfl ?_ | refine M5 rfl rfl rfl (fun _ => ?_) (fun _ => ?_) | refine M6 rfl rfl rfl (fun _ => ?_) (fun _ => ?_)) | (refine IsBin ?_; first | refine B1 rfl rfl rfl rfl ?_ | refine B2 rfl rfl rfl rfl ?_ | refine B3 rfl rfl rfl rfl ?_ | refine B4 rfl rfl rfl rfl ?_ | refine B5 rfl rfl rfl rfl ?_ | refine B6 rfl rfl rfl rfl ?_ | refine B7 rfl rfl rfl rfl rfl ?_ | refine B8 rfl rfl rfl rfl rfl ?_ | refine B9 rfl rfl rfl rfl rfl rfl rfl ?_ | refine BA rfl rfl rfl rfl rfl rfl rfl ?_) | (refine IsConv ?_; refine C1 rfl rfl rfl rfl rfl ?_) | (refine IsLoad ?_; first | refine L1 rfl rfl rfl rfl ?_ | refine L2 rfl rfl rfl rfl rfl ?_) | (refine IsStore ?_; refine S1 rfl rfl rfl rfl rfl rfl rfl (fun _ => ?_)) | (refine IsBox ?_; refine N1 rfl rfl rfl rfl (fun _ => ?_)) | (refine IsAlloc ?_; refine N2 rfl rfl rfl rfl (fun _ => ?_)) | (refine IsBuild ?_; refine U1 rfl rfl rfl rfl rfl rfl ?_) | refine V1 rfl rfl rfl ?_) | (refine IsAt ?_; first | (with_reducible first | refine T1 ?_ | refine T2 ?_ | refine T3 ?_ | refine T4 ?_ | refine T5 ?_ | refine T6 ?_ | refine T7 ?_ | refine T8 ?_ | refine T9 ?_ | refine TA ?_ | refine TB ?_ | refine TC ?_) | ((with_reducible show At _ (PBlock _ _ (Exit.exit _)) _ _); first | refine At_block_hit ?_ | refine At_block_miss rfl ?_)) | (refine IsJ ?_; first | refine J_seq ?_ | refine J_region ?_ | refine J_block ?_ | refine J_skip ?_ | refine J_ret ?_ | refine J_exit ?_ | (refine IsCond ?_; first | refine J_cond_t rfl ?_ | refine J_cond_f rfl ?_ | refine K1 rfl ?_ | refine K2 rfl ?_ | refine K3 rfl ?_ | refine K4 rfl ?_ | refine J_cb rfl (fun _ => ?_) (fun _ => ?_) | refine J_nb rfl (fun _ => ?_) (fun _ => ?_))))
    have e3 : (os ++ [(⟨T, kd, pt, List.replicate k 0, some ⟨bw, 0, none⟩, k⟩ : RO)]).length = os.length + 1 := by simp
    have e2 : (os ++ [(⟨T, kd, pt, List.replicate k 0, some ⟨bw, 0, none⟩, k⟩ : RO)]).flatMap cellsO = os.flatMap cellsO ++ OC bw := by simp [OC]
    refine At_ret' rfl rfl (.agg rfl rfl rfl (by repeat (first | exact .head _ | refine .tail _ ?_)) rfl (.tmp rfl (.tmp rfl .nil))) rfl (fun H hl => ?_) ⟨a2, c2, some ⟨bw, 0, none⟩, k, ?_, rfl⟩
    · have h1 := hl.pick (is := [4, 5, 2]) rfl
      have h2 := rowO_new (i := T) (kd := kd) (pt := pt) h1
      have h3 := RW.to (news := [⟨T, kd, pt, List.replicate k 0, some ⟨bw, 0, none⟩, k⟩]) (os := os) (os' := os ++ [⟨T, kd, pt, List.replicate k 0, some ⟨bw, 0, none⟩, k⟩]) (dr := []) (by rw [List.append_nil]; exact List.perm_append_comm) h2
      unfold refL objsZ
      rw [e2, e3]
      exact h3.swap
    · rw [e3]; rfl
end ops
end Go.Proofs.Ytahfnbpbdnmggaa
/-
  Our own: the document's heaps (besomref01): Split.
-/
set_option linter.unusedVariables false
set_option linter.unusedSimpArgs false
namespace Go.Sep
end Go.Sep
namespace Go.Proofs.Ytahfnbpbdnmggaa
open Go.Sep
/-- Objects from i on in words where the ones from there on are told elsewhere. -/
theorem Ch.put {ws ws' : List Int} {os : List RO} {j T : Nat} {o : RO} {mid : List RO} (hc : Ch ws 0 os T) (hj : os[j]? = some o) (hk : ∀ q : Nat, (q < o.i ∨ o.i + 1 + o.ws.length ≤ q) → ws'[q]? = ws[q]?) (hm : Ch ws' o.i mid (o.i + 1 + o.ws.length)) : Ch ws' 0 (os.take j ++ mid ++ os.drop (j + 1)) T := by
  obtain ⟨h1, h2⟩ := hc.at hj
  refine Ch.app.2 ⟨_, Ch.app.2 ⟨_, h1.keep fun q _ b => hk q (.inl b), hm⟩, h2.2.2.2.2.keep fun q b _ => hk q (.inr b)⟩
theorem zrep {k j : Nat} (h : j < k) : (List.replicate k (0 : Int))[j]? = some 0 := by rw [List.getElem?_replicate, if_pos h]
section ops
variable {a : Option Addr} {cap : Nat} {os : List RO} {n T : Nat} {ws : List Int} {st : List Bool}
end ops
end Go.Proofs.Ytahfnbpbdnmggaa
/-
  Our own: graphs (besomlaw11): Few, place.
-/
set_option linter.unusedVariables false
set_option linter.unusedSimpArgs false
namespace Go.Proofs.Ytahfnbpbdnmggaa
open Go.Sep
def fewB (g : GG) : Bool := (g.ns.all fun y => decide (y.es.length ≤ 10)) && (decide (g.ns.length ≤ 14) && decide (g.rs.length ≤ 14))
theorem node_take {ns : List ND} {i : Nat} {y : ND} (h : ns[i]? = some y) : takeL (ns.flatMap cellsN) (i * 3) 3 = some (cellsN y) := flat_take (f := cellsN) (fun _ _ => rfl) h
theorem few_all {ns : List ND} (hj : ∀ j y, j < ns.length → ns[j]? = some y → y.es.length ≤ 10) : (ns.all fun y => decide (y.es.length ≤ 10)) = true := by
  rw [List.all_eq_true]
  intro y hy
  obtain ⟨j, hy⟩ := List.getElem?_of_mem hy
  exact decide_eq_true (hj j y (List.getElem?_eq_some_iff.1 hy).1 hy)
set_option maxHeartbeats 4000000 in
theorem Few_spec {R : HP} {g : GG} (h : GOk R g) : Does Try.prog 8 [gV g] [R] (fun v l => v = .bool (fewB g) ∧ l = [R]) := by
  obtain ⟨ns, na, nc, rs, ra, rc⟩ := g
  obtain ⟨hnd, hrn, hnl, hrr, hrb, hrl⟩ := h
  dsimp only at hnd hrn hnl hrr hrb hrl
  refine Does.of tiok Try.func8 (by kernel_rfl) rfl Try.ntmps8 rfl ?_
  intro W fr
  repeat' (first | (refine IsO ?_; first | refine JO_nil ?_ | (refine IsG ?_; first | refine G1 rfl rfl ?_ | refine G2 rfl ?_) | (refine IsMove ?_; first | refine M1 rfl rfl rfl ?_ | refine M2 rfl rfl rfl ?_ | refine M3 rfl rfl rfl ?_ | refine M4 rfl rfl rfl ?_ | refine M5 rfl rfl rfl (fun _ => ?_) (fun _ => ?_) | refine M6 rfl rfl rfl (fun _ => ?_) (fun _ => ?_)) | (refine IsBin ?_; first | refine B1 rfl rfl rfl rfl ?_ | refine B2 rfl rfl rfl rfl ?_ | refine B3 rfl rfl rfl rfl ?_ | refine B4 rfl rfl rfl rfl ?_ | refine B5 rfl rfl rfl rfl ?_ | refine B6 rfl rfl rfl rfl ?_ | refine B7 rfl rfl rfl rfl rfl ?_ | refine B8 rfl rfl rfl rfl rfl ?_ | refine B9 rfl rfl rfl rfl rfl rfl rfl ?_ | refine BA rfl rfl rfl rfl rfl rfl rfl ?_) | (refine IsConv ?_; refine C1 rfl rfl rfl rfl rfl ?_) | (refine IsLoad ?_; first | refine L1 rfl rfl rfl rfl ?_ | refine L2 rfl rfl rfl rfl rfl ?_) | (refine IsStore ?_; refine S1 rfl rfl rfl rfl rfl rfl rfl (fun _ => ?_)) | (refine IsBox ?_; refine N1 rfl rfl rfl rfl (fun _ => ?_)) | (refine IsAlloc ?_; refine N2 rfl rfl rfl rfl (fun _ => ?_)) | (refine IsBuild ?_; refine U1 rfl rfl rfl rfl rfl rfl ?_) | refine V1 rfl rfl rfl ?_) | (refine IsAt ?_; first | (with_reducible first | refine T1 ?_ | refine T2 ?_ | refine T3 ?_ | refine T4 ?_ | refine T5 ?_ | refine T6 ?_ | refine T7 ?_ | refine T8 ?_ | refine T9 ?_ | refine TA ?_ | refine TB ?_ | refine TC ?_) | ((with_reducible show At _ (PBlock _ _ (Exit.exit _)) _ _); first | refine At_block_hit ?_ | refine At_block_miss rfl ?_)) | (refine IsJ ?_; first | refine J_seq ?_ | refine J_region ?_ | refine J_block ?_ | refine J_skip ?_ | refine J_ret ?_ | refine J_exit ?_ | (refine IsCond ?_; first | refine J_cond_t rfl ?_ | refine J_cond_f rfl ?_ | refine K1 rfl ?_ | refine K2 rfl ?_ | refine K3 rfl ?_ | refine K4 rfl ?_ | refine J_cb rfl (fun _ => ?_) (fun _ => ?_) | refine J_nb rfl (fun _ => ?_) (fun _ => ?_))))
  rename_i bg
  refine J_loop (α := Nat) (fun i => i ≤ ns.length ∧ ∀ j y, j < i → ns[j]? = some y → y.es.length ≤ 10)
    (fun i => [(1, ptr bg 0), (2, .bool false), (6, .slice na ns.length nc), (7, .int .i64 ns.length), (8, .int .i64 i)])
    (fun i => [blk bg [.slice na ns.length nc, .slice ra rs.length rc] 25, R]) (fun i => ns.length - i) 0 ⟨Nat.zero_le _, fun j y hj => absurd hj (Nat.not_lt_zero _)⟩ (by repeat (first | exact True.intro | refine And.intro rfl ?_)) (fun H hl => hl) ?_
  rintro i ⟨hi, hj⟩
  repeat' (first | (refine IsO ?_; first | refine JO_nil ?_ | (refine IsG ?_; first | refine G1 rfl rfl ?_ | refine G2 rfl ?_) | (refine IsMove ?_; first | refine M1 rfl rfl rfl ?_ | refine M2 rfl rfl rfl ?_ | refine M3 rfl rfl rfl ?_ | refine M4 rfl rfl rfl ?_ | refine M5 rfl rfl rfl (fun _ => ?_) (fun _ => ?_) | refine M6 rfl rfl rfl (fun _ => ?_) (fun _ => ?_)) | (refine IsBin ?_; first | refine B1 rfl rfl rfl rfl ?_ | refine B2 rfl rfl rfl rfl ?_ | refine B3 rfl rfl rfl rfl ?_ | refine B4 rfl rfl rfl rfl ?_ | refine B5 rfl rfl rfl rfl ?_ | refine B6 rfl rfl rfl rfl ?_ | refine B7 rfl rfl rfl rfl rfl ?_ | refine B8 rfl rfl rfl rfl rfl ?_ | refine B9 rfl rfl rfl rfl rfl rfl rfl ?_ | refine BA rfl rfl rfl rfl rfl rfl rfl ?_) | (refine IsConv ?_; refine C1 rfl rfl rfl rfl rfl ?_) | (refine IsLoad ?_; first | refine L1 rfl rfl rfl rfl ?_ | refine L2 rfl rfl rfl rfl rfl ?_) | (refine IsStore ?_; refine S1 rfl rfl rfl rfl rfl rfl rfl (fun _ => ?_)) | (refine IsBox ?_; refine N1 rfl rfl rfl rfl (fun _ => ?_)) | (refine IsAlloc ?_; refine N2 rfl rfl rfl rfl (fun _ => ?_)) | (refine IsBuild ?_; refine U1 rfl rfl rfl rfl rfl rfl ?_) | refine V1 rfl rfl rfl ?_) | (refine IsAt ?_; first | (with_reducible first | refine T1 ?_ | refine T2 ?_ | refine T3 ?_ | refine T4 ?_ | refine T5 ?_ | refine T6 ?_ | refine T7 ?_ | refine T8 ?_ | refine T9 ?_ | refine TA ?_ | refine TB ?_ | refine TC ?_) | ((with_reducible show At _ (PBlock _ _ (Exit.exit _)) _ _); first | refine At_block_hit ?_ | refine At_block_miss rfl ?_)) | (refine IsJ ?_; first | refine J_seq ?_ | refine J_region ?_ | refine J_block ?_ | refine J_skip ?_ | refine J_ret ?_ | refine J_exit ?_ | (refine IsCond ?_; first | refine J_cond_t rfl ?_ | refine J_cond_f rfl ?_ | refine K1 rfl ?_ | refine K2 rfl ?_ | refine K3 rfl ?_ | refine K4 rfl ?_ | refine J_cb rfl (fun _ => ?_) (fun _ => ?_) | refine J_nb rfl (fun _ => ?_) (fun _ => ?_))))
  · rename_i hlt
    obtain ⟨y, hy⟩ : ∃ y, ns[i]? = some y := ⟨ns[i]'(by omega), List.getElem?_eq_getElem _⟩
    refine JO_fact _ (fun w hs => hrn.some (by omega) hs (by repeat (first | exact .head _ | refine .tail _ ?_))) ?_
    rintro ⟨b, o, rfl⟩
    refine JO_val (OV_idx (off := o + i * 3) rfl rfl rfl rfl (by omega) (by omega) (by simp)) rfl rfl ?_
    refine JO_q (OQ_readA hrn (by repeat (first | exact .head _ | refine .tail _ ?_)) rfl rfl rfl (by omega) (node_take hy)) rfl rfl ?_
    repeat' (first | (refine IsO ?_; first | refine JO_nil ?_ | (refine IsG ?_; first | refine G1 rfl rfl ?_ | refine G2 rfl ?_) | (refine IsMove ?_; first | refine M1 rfl rfl rfl ?_ | refine M2 rfl rfl rfl ?_ | refine M3 rfl rfl rfl ?_ | refine M4 rfl rfl rfl ?_ | refine M5 rfl rfl rfl (fun _ => ?_) (fun _ => ?_) | refine M6 rfl rfl rfl (fun _ => ?_) (fun _ => ?_)) | (refine IsBin ?_; first | refine B1 rfl rfl rfl rfl ?_ | refine B2 rfl rfl rfl rfl ?_ | refine B3 rfl rfl rfl rfl ?_ | refine B4 rfl rfl rfl rfl ?_ | refine B5 rfl rfl rfl rfl ?_ | refine B6 rfl rfl rfl rfl ?_ | refine B7 rfl rfl rfl rfl rfl ?_ | refine B8 rfl rfl rfl rfl rfl ?_ | refine B9 rfl rfl rfl rfl rfl rfl rfl ?_ | refine BA rfl rfl rfl rfl rfl rfl rfl ?_) | (refine IsConv ?_; refine C1 rfl rfl rfl rfl rfl ?_) | (refine IsLoad ?_; first | refine L1 rfl rfl rfl rfl ?_ | refine L2 rfl rfl rfl rfl rfl ?_) | (refine IsStore ?_; refine S1 rfl rfl rfl rfl rfl rfl rfl (fun _ => ?_)) | (refine IsBox ?_; refine N1 rfl rfl rfl rfl (fun _ => ?_)) | (refine IsAlloc ?_; refine N2 rfl rfl rfl rfl (fun _ => ?_)) | (refine IsBuild ?_; refine U1 rfl rfl rfl rfl rfl rfl ?_) | refine V1 rfl rfl rfl ?_) | (refine IsAt ?_; first | (with_reducible first | refine T1 ?_ | refine T2 ?_ | refine T3 ?_ | refine T4 ?_ | refine T5 ?_ | refine T6 ?_ | refine T7 ?_ | refine T8 ?_ | refine T9 ?_ | refine TA ?_ | refine TB ?_ | refine TC ?_) | ((with_reducible show At _ (PBlock _ _ (Exit.exit _)) _ _); first | refine At_block_hit ?_ | refine At_block_miss rfl ?_)) | (refine IsJ ?_; first | refine J_seq ?_ | refine J_region ?_ | refine J_block ?_ | refine J_skip ?_ | refine J_ret ?_ | refine J_exit ?_ | (refine IsCond ?_; first | refine J_cond_t rfl ?_ | refine J_cond_f rfl ?_ | refine K1 rfl ?_ | refine K2 rfl ?_ | refine K3 rfl ?_ | refine K4 rfl ?_ | refine J_cb rfl (fun _ => ?_) (fun _ => ?_) | refine J_nb rfl (fun _ => ?_) (fun _ => ?_))))
    · rename_i h10
      refine At_ret rfl rfl (.tmp rfl .nil) rfl (is := [2]) rfl ⟨?_, rfl⟩
      unfold fewB
      rw [show (ns.all fun y => decide (y.es.length ≤ 10)) = false from by
        rw [List.all_eq_false]
        exact ⟨y, List.mem_of_getElem? hy, by simp; omega⟩]
      rfl
    · rename_i h10
      refine At_round (i + 1) (by show ns.length - (i + 1) < ns.length - i; omega) ⟨by omega, fun j z hj2 hz => ?_⟩ (by repeat (first | exact True.intro | refine And.intro rfl ?_)) (fun H hl => hl.tail)
      by_cases e : j = i
      · subst e; rw [hy] at hz; injection hz with hz; subst hz; omega
      · exact hj j z (by omega) hz
  · rename_i _ h1
    obtain rfl : i = ns.length := by omega
    refine At_ret rfl rfl (.tmp rfl .nil) rfl (is := [1]) rfl ⟨congrArg Value.bool ?_, rfl⟩
    have hA := few_all hj
    unfold fewB
    dsimp only
    rw [hA, decide_eq_true (show ns.length ≤ 14 by omega), Bool.true_and, Bool.true_and]
    exact decide_eq_decide.2 (by omega)
  · rename_i _ h1
    obtain rfl : i = ns.length := by omega
    refine At_ret rfl rfl (.tmp rfl .nil) rfl (is := [1]) rfl ⟨congrArg Value.bool ?_, rfl⟩
    have hA := few_all hj
    unfold fewB
    dsimp only
    rw [decide_eq_false (show ¬ ns.length ≤ 14 by omega), Bool.false_and, Bool.and_false]
/-- A reference to the place of a number. -/
def plcI (at_ : List Int) (z : Int) : Int := if z % ((at_.length : Int) + 1) = at_.length then 0 else 1 + at_.getD (z % ((at_.length : Int) + 1)).toNat 0
theorem place11_spec {R : HP} {a : Option Addr} {cap : Nat} {at_ : List Int} (z : Int) (h0 : 0 ≤ z) (h1 : z ≤ 255) (hl : at_.length ≤ 65536) (hb : ∀ q ∈ at_, 0 ≤ q ∧ q ≤ 65536) (hR : Reads R 1 at_.length a cap (intsV at_)) :
    Does Try.prog 34 [.slice a at_.length cap, .int .u8 z] [R] (fun v l => v = .int .i64 (plcI at_ z) ∧ l = [R]) := by
  refine Does.of tiok Try.func34 (by kernel_rfl) rfl Try.ntmps34 rfl ?_
  intro W fr
  have m0 : 0 ≤ z % ((at_.length : Int) + 1) := Int.emod_nonneg _ (by omega)
  have m1 : z % ((at_.length : Int) + 1) < (at_.length : Int) + 1 := Int.emod_lt_of_pos _ (by omega)
  unfold plcI
  by_cases he : z % ((at_.length : Int) + 1) = at_.length
  · rw [if_pos he]
    repeat' (first | (refine IsO ?_; first | refine JO_nil ?_ | (refine IsG ?_; first | refine G1 rfl rfl ?_ | refine G2 rfl ?_) | (refine IsMove ?_; first | refine M1 rfl rfl rfl ?_ | refine M2 rfl rfl rfl ?_ | refine M3 rfl rfl rfl ?_ | refine M4 rfl rfl rfl ?_ | refine M5 rfl rfl rfl (fun _ => ?_) (fun _ => ?_) | refine M6 rfl rfl rfl (fun _ => ?_) (fun _ => ?_)) | (refine IsBin ?_; first | refine B1 rfl rfl rfl rfl ?_ | refine B2 rfl rfl rfl rfl ?_ | refine B3 rfl rfl rfl rfl ?_ | refine B4 rfl rfl rfl rfl ?_ | refine B5 rfl rfl rfl rfl ?_ | refine B6 rfl rfl rfl rfl ?_ | refine B7 rfl rfl rfl rfl rfl ?_ | refine B8 rfl rfl rfl rfl rfl ?_ | refine B9 rfl rfl rfl rfl rfl rfl rfl ?_ | refine BA rfl rfl rfl rfl rfl rfl rfl ?_) | (refine IsConv ?_; refine C1 rfl rfl rfl rfl rfl ?_) | (refine IsLoad ?_; first | refine L1 rfl rfl rfl rfl ?_ | refine L2 rfl rfl rfl rfl rfl ?_) | (refine IsStore ?_; refine S1 rfl rfl rfl rfl rfl rfl rfl (fun _ => ?_)) | (refine IsBox ?_; refine N1 rfl rfl rfl rfl (fun _ => ?_)) | (refine IsAlloc ?_; refine N2 rfl rfl rfl rfl (fun _ => ?_)) | (refine IsBuild ?_; refine U1 rfl rfl rfl rfl rfl rfl ?_) | refine V1 rfl rfl rfl ?_) | (refine IsAt ?_; first | (with_reducible first | refine T1 ?_ | refine T2 ?_ | refine T3 ?_ | refine T4 ?_ | refine T5 ?_ | refine T6 ?_ | refine T7 ?_ | refine T8 ?_ | refine T9 ?_ | refine TA ?_ | refine TB ?_ | refine TC ?_) | ((with_reducible show At _ (PBlock _ _ (Exit.exit _)) _ _); first | refine At_block_hit ?_ | refine At_block_miss rfl ?_)) | (refine IsJ ?_; first | refine J_seq ?_ | refine J_region ?_ | refine J_block ?_ | refine J_skip ?_ | refine J_ret ?_ | refine J_exit ?_ | (refine IsCond ?_; first | refine J_cond_t rfl ?_ | refine J_cond_f rfl ?_ | refine K1 rfl ?_ | refine K2 rfl ?_ | refine K3 rfl ?_ | refine K4 rfl ?_ | refine J_cb rfl (fun _ => ?_) (fun _ => ?_) | refine J_nb rfl (fun _ => ?_) (fun _ => ?_))))
    exact At_ret rfl rfl (.tmp rfl .nil) rfl (is := [0]) rfl ⟨rfl, rfl⟩
  · rw [if_neg he]
    repeat' (first | (refine IsO ?_; first | refine JO_nil ?_ | (refine IsG ?_; first | refine G1 rfl rfl ?_ | refine G2 rfl ?_) | (refine IsMove ?_; first | refine M1 rfl rfl rfl ?_ | refine M2 rfl rfl rfl ?_ | refine M3 rfl rfl rfl ?_ | refine M4 rfl rfl rfl ?_ | refine M5 rfl rfl rfl (fun _ => ?_) (fun _ => ?_) | refine M6 rfl rfl rfl (fun _ => ?_) (fun _ => ?_)) | (refine IsBin ?_; first | refine B1 rfl rfl rfl rfl ?_ | refine B2 rfl rfl rfl rfl ?_ | refine B3 rfl rfl rfl rfl ?_ | refine B4 rfl rfl rfl rfl ?_ | refine B5 rfl rfl rfl rfl ?_ | refine B6 rfl rfl rfl rfl ?_ | refine B7 rfl rfl rfl rfl rfl ?_ | refine B8 rfl rfl rfl rfl rfl ?_ | refine B9 rfl rfl rfl rfl rfl rfl rfl ?_ | refine BA rfl rfl rfl rfl rfl rfl rfl ?_) | (refine IsConv ?_; refine C1 rfl rfl rfl rfl rfl ?_) | (refine IsLoad ?_; first | refine L1 rfl rfl rfl rfl ?_ | refine L2 rfl rfl rfl rfl rfl ?_) | (refine IsStore ?_; refine S1 rfl rfl rfl rfl rfl rfl rfl (fun _ => ?_)) | (refine IsBox ?_; refine N1 rfl rfl rfl rfl (fun _ => ?_)) | (refine IsAlloc ?_; refine N2 rfl rfl rfl rfl (fun _ => ?_)) | (refine IsBuild ?_; refine U1 rfl rfl rfl rfl rfl rfl ?_) | refine V1 rfl rfl rfl ?_) | (refine IsAt ?_; first | (with_reducible first | refine T1 ?_ | refine T2 ?_ | refine T3 ?_ | refine T4 ?_ | refine T5 ?_ | refine T6 ?_ | refine T7 ?_ | refine T8 ?_ | refine T9 ?_ | refine TA ?_ | refine TB ?_ | refine TC ?_) | ((with_reducible show At _ (PBlock _ _ (Exit.exit _)) _ _); first | refine At_block_hit ?_ | refine At_block_miss rfl ?_)) | (refine IsJ ?_; first | refine J_seq ?_ | refine J_region ?_ | refine J_block ?_ | refine J_skip ?_ | refine J_ret ?_ | refine J_exit ?_ | (refine IsCond ?_; first | refine J_cond_t rfl ?_ | refine J_cond_f rfl ?_ | refine K1 rfl ?_ | refine K2 rfl ?_ | refine K3 rfl ?_ | refine K4 rfl ?_ | refine J_cb rfl (fun _ => ?_) (fun _ => ?_) | refine J_nb rfl (fun _ => ?_) (fun _ => ?_))))
    obtain ⟨k, hk⟩ := Int.eq_ofNat_of_zero_le m0
    rw [hk] at he m1 ⊢
    obtain ⟨q, hq⟩ : ∃ q, at_[k]? = some q := ⟨at_[k]'(by omega), List.getElem?_eq_getElem _⟩
    have hqb := hb q (List.mem_of_getElem? hq)
    refine JO_fact _ (fun w hs => hR.some (by omega) hs (by repeat (first | exact .head _ | refine .tail _ ?_))) ?_
    rintro ⟨b, o, rfl⟩
    refine JO_val (OV_idx (off := o + k) rfl rfl rfl rfl (by omega) (by omega) (by simp)) rfl rfl ?_
    refine JO_q (OQ_read (v := .int .i64 q) hR (by repeat (first | exact .head _ | refine .tail _ ?_)) rfl rfl (by omega) (by simp [intsV, hq])) rfl rfl ?_
    repeat' (first | (refine IsO ?_; first | refine JO_nil ?_ | (refine IsG ?_; first | refine G1 rfl rfl ?_ | refine G2 rfl ?_) | (refine IsMove ?_; first | refine M1 rfl rfl rfl ?_ | refine M2 rfl rfl rfl ?_ | refine M3 rfl rfl rfl ?_ | refine M4 rfl rfl rfl ?_ | refine M5 rfl rfl rfl (fun _ => ?_) (fun _ => ?_) | refine M6 rfl rfl rfl (fun _ => ?_) (fun _ => ?_)) | (refine IsBin ?_; first | refine B1 rfl rfl rfl rfl ?_ | refine B2 rfl rfl rfl rfl ?_ | refine B3 rfl rfl rfl rfl ?_ | refine B4 rfl rfl rfl rfl ?_ | refine B5 rfl rfl rfl rfl ?_ | refine B6 rfl rfl rfl rfl ?_ | refine B7 rfl rfl rfl rfl rfl ?_ | refine B8 rfl rfl rfl rfl rfl ?_ | refine B9 rfl rfl rfl rfl rfl rfl rfl ?_ | refine BA rfl rfl rfl rfl rfl rfl rfl ?_) | (refine IsConv ?_; refine C1 rfl rfl rfl rfl rfl ?_) | (refine IsLoad ?_; first | refine L1 rfl rfl rfl rfl ?_ | refine L2 rfl rfl rfl rfl rfl ?_) | (refine IsStore ?_; refine S1 rfl rfl rfl rfl rfl rfl rfl (fun _ => ?_)) | (refine IsBox ?_; refine N1 rfl rfl rfl rfl (fun _ => ?_)) | (refine IsAlloc ?_; refine N2 rfl rfl rfl rfl (fun _ => ?_)) | (refine IsBuild ?_; refine U1 rfl rfl rfl rfl rfl rfl ?_) | refine V1 rfl rfl rfl ?_) | (refine IsAt ?_; first | (with_reducible first | refine T1 ?_ | refine T2 ?_ | refine T3 ?_ | refine T4 ?_ | refine T5 ?_ | refine T6 ?_ | refine T7 ?_ | refine T8 ?_ | refine T9 ?_ | refine TA ?_ | refine TB ?_ | refine TC ?_) | ((with_reducible show At _ (PBlock _ _ (Exit.exit _)) _ _); first | refine At_block_hit ?_ | refine At_block_miss rfl ?_)) | (refine IsJ ?_; first | refine J_seq ?_ | refine J_region ?_ | refine J_block ?_ | refine J_skip ?_ | refine J_ret ?_ | refine J_exit ?_ | (refine IsCond ?_; first | refine J_cond_t rfl ?_ | refine J_cond_f rfl ?_ | refine K1 rfl ?_ | refine K2 rfl ?_ | refine K3 rfl ?_ | refine K4 rfl ?_ | refine J_cb rfl (fun _ => ?_) (fun _ => ?_) | refine J_nb rfl (fun _ => ?_) (fun _ => ?_))))
    exact At_ret rfl rfl (.tmp rfl .nil) rfl (is := [0]) rfl ⟨by rw [Int.toNat_natCast, List.getD_eq_getElem?_getD, hq]; rfl, rfl⟩
end Go.Proofs.Ytahfnbpbdnmggaa
/-
  Our own: the heaps of graphs, as lists: heads, places, how many words are needed.
-/
set_option linter.unusedVariables false
set_option linter.unusedSimpArgs false
namespace Go.Proofs.Ytahfnbpbdnmggaa
open Go.Sep
abbrev hdO (o : RO) : Int × Nat × Int := (o.k, o.ws.length, o.p)
theorem Ch.hds {ws ws' : List Int} : ∀ {os os' : List RO} {i T : Nat}, Ch ws i os T → Ch ws' i os' T → (∀ o ∈ os, ws'[o.i]? = ws[o.i]?) → os'.map hdO = os.map hdO
  | [], [], _, _, _, _, _ => rfl
  | [], o' :: r', i, T, h, h', _ => by have := h'.2.2.2.2.le; have : i = T := h; omega
  | o :: r, [], i, T, h, h', _ => by have := h.2.2.2.2.le; have : i = T := h'; omega
  | o :: r, o' :: r', i, T, ⟨h1, h2, h3, h4, h5⟩, ⟨k1, k2, k3, k4, k5⟩, e => by
    have e1 := e o (.head _)
    rw [h1, h3, k3] at e1
    injection e1 with e1
    obtain ⟨_, _, a1, a2, a3⟩ := packI_un h2
    obtain ⟨_, _, b1, b2, b3⟩ := packI_un k2
    rw [e1] at b1 b2 b3
    rw [a1] at b1
    rw [a2] at b2
    rw [a3] at b3
    have hl : o'.ws.length = o.ws.length := by omega
    rw [hl] at k5
    rw [List.map_cons, List.map_cons, Ch.hds h5 k5 fun x hx => e x (.tail _ hx)]
    unfold hdO
    rw [hl, ← b1, ← b3]
theorem writeW_hd {n T : Nat} {ws : List Int} {st : List Bool} (h : HT n T ws st) {q : Nat} (hq : st[q]? = some true) (x f v : Int) : (writeW ws st x f v)[q]? = ws[q]? := by
  unfold writeW
  by_cases hc : writeC ws st x f v = 0
  · rw [if_pos hc]
    unfold writeC at hc
    by_cases hx : isObj st x
    · rw [if_neg (not_not_intro hx)] at hc
      by_cases hf : 0 ≤ f ∧ f < unN (ws.getD x.toNat 0)
      · obtain ⟨i, rfl⟩ := Int.eq_ofNat_of_zero_le hx.1
        obtain ⟨m, rfl⟩ := Int.eq_ofNat_of_zero_le hf.1
        obtain ⟨w, a1, a2, a3, a4, a5⟩ := h.obj i (by have := hx.2; rwa [Int.toNat_natCast] at this)
        rw [Int.toNat_natCast, getD_of a1] at hf
        rw [Int.toNat_natCast, Int.toNat_natCast]
        refine List.getElem?_set_ne fun e => ?_
        exact a5 q (by omega) (by omega) hq
      · rw [if_pos hf] at hc; cases hc
    · rw [if_pos hx] at hc; cases hc
  · rw [if_neg hc]
/-- A heap and the document's that agree, with such heads. -/
structure BInv (n T : Nat) (ws : List Int) (st : List Bool) (os : List RO) (hs : List (Int × Nat × Int)) : Prop where
  ht : HT n T ws st
  ch : Ch ws 0 os T
  hd : os.map hdO = hs
  ro : RefsOk ws st
theorem BInv.write {n T : Nat} {ws : List Int} {st : List Bool} {os os' : List RO} {hs : List (Int × Nat × Int)} (h : BInv n T ws st os hs) {x f v : Int} (h64 : In64 v) (hc : Ch (writeW ws st x f v) 0 os' T) : BInv n T (writeW ws st x f v) st os' hs :=
  ⟨h.ht.writeW x f v h64, hc, (h.ch.hds hc fun o ho => writeW_hd h.ht (Ch.start h.ht h.ch (h.ht.zero.imp (fun e => e.symm) id) o ho) x f v).trans h.hd, RefsOk.writeW h.ht h.ro x f v⟩
theorem BInv.place {n T : Nat} {ws : List Int} {st : List Bool} {os : List RO} {hs : List (Int × Nat × Int)} (h : BInv n T ws st os hs) {kd pt : Int} {k : Nat} (hg : goodB kd k pt = true) (hf : T + 1 + k ≤ n) (wa : Option Addr) (wc : Nat) :
    BInv n (T + 1 + k) (zeroAt (ws.set T (packI kd k pt)) (T + 1) k) (st.set T true) (os ++ [⟨T, kd, pt, List.replicate k 0, wa, wc⟩]) (hs ++ [(kd, k, pt)]) := by
  have hwl := h.ht.wl
  refine ⟨h.ht.place hg hf, ?_, ?_, RefsOk.place h.ht h.ro hg hf⟩
  · have hb : T + 1 + k ≤ ws.length := by omega
    have h1 := (h.ch.keep (ws' := zeroAt (ws.set T (packI kd k pt)) (T + 1) k) fun q _ b => lay_out hb (.inl b)).snoc (o := ⟨T, kd, pt, List.replicate k 0, wa, wc⟩) rfl (by dsimp only; rw [List.length_replicate]; exact hg) (by dsimp only; rw [List.length_replicate]; exact lay_at hb) (fun q hq => by
      dsimp only at hq ⊢
      rw [List.length_replicate] at hq
      exact (zeroAt_in (by simp; omega) (by omega) (by omega)).trans (zrep hq).symm)
    dsimp only at h1
    rw [List.length_replicate] at h1
    exact h1
  · rw [List.map_append, h.hd, List.map_cons, List.map_nil]
    unfold hdO
    rw [List.length_replicate]
/-- A graph's heap so far: how many nodes, words, where the nodes' objects are, the heads. -/
structure LG where
  i : Nat
  T : Nat
  at_ : List Int
  hs : List (Int × Nat × Int)
def fillG (s : LG) (y : ND) : LG := if s.i % 3 = 2 then ⟨s.i, s.T + 1 + (y.k % 2).toNat, s.at_, s.hs ++ [(15, (y.k % 2).toNat, 0)]⟩ else s
def lenG (y : ND) : Nat := y.es.length + (y.m % 4).toNat
def nodeG (s : LG) (y : ND) : LG := ⟨s.i + 1, s.T + 1 + lenG y, s.at_ ++ [(s.T : Int)], s.hs ++ [(y.k % 15, lenG y, (y.es.length : Int))]⟩
def stepG (s : LG) (y : ND) : LG := nodeG (fillG s y) y
def layG (ns : List ND) : LG := ns.foldl stepG ⟨0, 0, [], []⟩
def needG (ns : List ND) : Nat := (ns.map fun y => 3 + lenG y).sum
theorem take_next {α : Type} {ns : List α} {i : Nat} {y : α} (h : ns[i]? = some y) : ns.take (i + 1) = ns.take i ++ [y] := by rw [List.take_add_one, h]; rfl
theorem layG_next {ns : List ND} {i : Nat} {y : ND} (h : ns[i]? = some y) : layG (ns.take (i + 1)) = stepG (layG (ns.take i)) y := by
  unfold layG
  rw [take_next h, List.foldl_append]
  rfl
theorem needG_next {ns : List ND} {i : Nat} {y : ND} (h : ns[i]? = some y) : needG (ns.take (i + 1)) = needG (ns.take i) + (3 + lenG y) := by
  unfold needG
  rw [take_next h, List.map_append, List.sum_append]
  simp
theorem needG_le {ns : List ND} : ∀ {i : Nat}, needG (ns.take i) ≤ needG ns := by
  intro i
  unfold needG
  conv => rhs; rw [← List.take_append_drop i ns]
  rw [List.map_append, List.sum_append]
  exact Nat.le_add_right _ _
theorem layG_i {ns : List ND} : ∀ {i : Nat}, i ≤ ns.length → (layG (ns.take i)).i = i ∧ (layG (ns.take i)).at_.length = i ∧ (layG (ns.take i)).T ≤ needG (ns.take i) ∧ ∀ q ∈ (layG (ns.take i)).at_, 0 ≤ q ∧ q ≤ (layG (ns.take i)).T
  | 0, _ => ⟨rfl, rfl, Nat.le_refl _, fun q hq => by cases hq⟩
  | i + 1, h => by
    obtain ⟨h1, h2, h3, h4⟩ := layG_i (ns := ns) (i := i) (by omega)
    obtain ⟨y, hy⟩ : ∃ y, ns[i]? = some y := ⟨ns[i]'(by omega), List.getElem?_eq_getElem _⟩
    rw [layG_next hy, needG_next hy]
    generalize layG (ns.take i) = s at h1 h2 h3 h4 ⊢
    unfold stepG nodeG fillG
    by_cases h5 : s.i % 3 = 2
    · rw [if_pos h5]
      refine ⟨by dsimp only; omega, by simp [h2], by dsimp only; omega, fun q hq => ?_⟩
      dsimp only at hq ⊢
      rcases List.mem_append.1 hq with hq | hq
      · have := h4 q hq; omega
      · have := List.mem_singleton.1 hq; omega
    · rw [if_neg h5]
      refine ⟨by dsimp only; omega, by simp [h2], by dsimp only; omega, fun q hq => ?_⟩
      dsimp only at hq ⊢
      rcases List.mem_append.1 hq with hq | hq
      · have := h4 q hq; omega
      · have := List.mem_singleton.1 hq; omega
theorem few_need {R : HP} {g : GG} (h : GOk R g) (hf : fewB g = true) : g.ns.length ≤ 14 ∧ g.rs.length ≤ 14 ∧ (∀ y ∈ g.ns, y.es.length ≤ 10) ∧ needG g.ns ≤ 224 := by
  unfold fewB at hf
  rw [Bool.and_eq_true, Bool.and_eq_true] at hf
  obtain ⟨h1, h2, h3⟩ := hf
  have h2 := of_decide_eq_true h2
  have h3 := of_decide_eq_true h3
  have h1' : ∀ y ∈ g.ns, y.es.length ≤ 10 := fun y hy => of_decide_eq_true (List.all_eq_true.1 h1 y hy)
  refine ⟨h2, h3, h1', ?_⟩
  have : ∀ l : List ND, (∀ y ∈ l, y.es.length ≤ 10) → needG l ≤ 16 * l.length := by
    intro l
    induction l with
    | nil => intro _; exact Nat.le_refl _
    | cons y l ih =>
      intro hl
      have a := ih fun z hz => hl z (.tail _ hz)
      have b := hl y (.head _)
      unfold needG lenG at a ⊢
      simp only [List.map_cons, List.sum_cons, List.length_cons]
      omega
  have := this g.ns h1'
  omega
end Go.Proofs.Ytahfnbpbdnmggaa
/-
  Our own: besomlaw11.Build: a graph's heap and the document's agree.
-/
set_option linter.unusedVariables false
set_option linter.unusedSimpArgs false
namespace Go.Proofs.Ytahfnbpbdnmggaa
open Go.Sep
theorem plcI_in {at_ : List Int} {z : Int} (hb : ∀ q ∈ at_, 0 ≤ q ∧ q ≤ 65536) : 0 ≤ plcI at_ z ∧ plcI at_ z ≤ 65537 := by
  unfold plcI
  split
  · omega
  · generalize (z % ((at_.length : Int) + 1)).toNat = k
    rw [List.getD_eq_getElem?_getD]
    cases h : at_[k]? with
    | none => exact ⟨by decide, by decide⟩
    | some q =>
      have := hb q (List.mem_of_getElem? h)
      rw [Option.getD_some]
      omega
set_option maxHeartbeats 32000000 in
theorem Build_spec {R : HP} {g : GG} (h : GOk R g) (hf : fewB g = true) (room : Nat) (hroom : room ≤ 1000) : Does Try.prog 9 [gV g, .int .i64 room] [R]
    (fun v l => ∃ p bw bs n T ws st a cap os ra rc, BInv n T ws st os (layG g.ns).hs ∧ n = 1 + room + needG g.ns ∧ T = (layG g.ns).T ∧
      v = .tuple #[ptr p 0, .slice ra g.rs.length rc, refV n a os.length cap] ∧ l = heapL p bw bs n ws T st ++ refL a cap os ++ [rowz 3 1 ra g.rs.length rc (intsV (g.rs.map (plcI (layG g.ns).at_))), R]) := by
  obtain ⟨hn14, hr14, he10, hnd224⟩ := few_need h hf
  obtain ⟨ns, na, nc, rs, ra0, rc0⟩ := g
  obtain ⟨hnd, hrn, hnl, hrr, hrb, hrl⟩ := h
  dsimp only at hnd hrn hnl hrr hrb hrl hn14 hr14 he10 hnd224 ⊢
  refine Does.of tiok Try.func9 (by kernel_rfl) rfl Try.ntmps9 rfl ?_
  intro W fr
  repeat' (first | (refine IsO ?_; first | refine JO_nil ?_ | (refine IsG ?_; first | refine G1 rfl rfl ?_ | refine G2 rfl ?_) | (refine IsMove ?_; first | refine M1 rfl rfl rfl ?_ | refine M2 rfl rfl rfl ?_ | refine M3 rfl rfl rfl ?_ | refine M4 rfl rfl rfl ?_ | refine M5 rfl rfl rfl (fun _ => ?_) (fun _ => ?_) | refine M6 rfl rfl rfl (fun _ => ?_) (fun _ => ?_)) | (refine IsBin ?_; first | refine B1 rfl rfl rfl rfl ?_ | refine B2 rfl rfl rfl rfl ?_ | refine B3 rfl rfl rfl rfl ?_ | refine B4 rfl rfl rfl rfl ?_ | refine B5 rfl rfl rfl rfl ?_ | refine B6 rfl rfl rfl rfl ?_ | refine B7 rfl rfl rfl rfl rfl ?_ | refine B8 rfl rfl rfl rfl rfl ?_ | refine B9 rfl rfl rfl rfl rfl rfl rfl ?_ | refine BA rfl rfl rfl rfl rfl rfl rfl ?_) | (refine IsConv ?_; refine C1 rfl rfl rfl rfl rfl ?_) | (refine IsLoad ?_; first | refine L1 rfl rfl rfl rfl ?_ | refine L2 rfl rfl rfl rfl rfl ?_) | (refine IsStore ?_; refine S1 rfl rfl rfl rfl rfl rfl rfl (fun _ => ?_)) | (refine IsBox ?_; refine N1 rfl rfl rfl rfl (fun _ => ?_)) | (refine IsAlloc ?_; refine N2 rfl rfl rfl rfl (fun _ => ?_)) | (refine IsBuild ?_; refine U1 rfl rfl rfl rfl rfl rfl ?_) | refine V1 rfl rfl rfl ?_) | (refine IsAt ?_; first | (with_reducible first | refine T1 ?_ | refine T2 ?_ | refine T3 ?_ | refine T4 ?_ | refine T5 ?_ | refine T6 ?_ | refine T7 ?_ | refine T8 ?_ | refine T9 ?_ | refine TA ?_ | refine TB ?_ | refine TC ?_) | ((with_reducible show At _ (PBlock _ _ (Exit.exit _)) _ _); first | refine At_block_hit ?_ | refine At_block_miss rfl ?_)) | (refine IsJ ?_; first | refine J_seq ?_ | refine J_region ?_ | refine J_block ?_ | refine J_skip ?_ | refine J_ret ?_ | refine J_exit ?_ | (refine IsCond ?_; first | refine J_cond_t rfl ?_ | refine J_cond_f rfl ?_ | refine K1 rfl ?_ | refine K2 rfl ?_ | refine K3 rfl ?_ | refine K4 rfl ?_ | refine J_cb rfl (fun _ => ?_) (fun _ => ?_) | refine J_nb rfl (fun _ => ?_) (fun _ => ?_))))
  rename_i bg b6
  rw [show (1 : Int) + (room : Int) = ((1 + room + needG (ns.take 0) : Nat) : Int) by show _ = ((1 + room + 0 : Nat) : Int); omega]
  refine J_loop (α := Nat) (fun i => i ≤ ns.length)
    (fun i => [(2, ptr bg 0), (4, .pointer none), (5, .slice none 0 0), (6, ptr b6 0), (7, .int .i64 ((1 + room + needG (ns.take i) : Nat) : Int)), (31, .slice na ns.length nc), (32, .int .i64 ns.length), (33, .int .i64 i)])
    (fun i => [blk b6 [.int .i64 0, .slice none 0 0] 33, blk bg [.slice na ns.length nc, .slice ra0 rs.length rc0] 25, R]) (fun i => ns.length - i) 0 (Nat.zero_le _) (by repeat (first | exact True.intro | refine And.intro rfl ?_)) (fun H hl => hl) ?_
  intro i hi
  have hni := Nat.le_trans (needG_le (ns := ns) (i := i)) hnd224
  repeat' (first | (refine IsO ?_; first | refine JO_nil ?_ | (refine IsG ?_; first | refine G1 rfl rfl ?_ | refine G2 rfl ?_) | (refine IsMove ?_; first | refine M1 rfl rfl rfl ?_ | refine M2 rfl rfl rfl ?_ | refine M3 rfl rfl rfl ?_ | refine M4 rfl rfl rfl ?_ | refine M5 rfl rfl rfl (fun _ => ?_) (fun _ => ?_) | refine M6 rfl rfl rfl (fun _ => ?_) (fun _ => ?_)) | (refine IsBin ?_; first | refine B1 rfl rfl rfl rfl ?_ | refine B2 rfl rfl rfl rfl ?_ | refine B3 rfl rfl rfl rfl ?_ | refine B4 rfl rfl rfl rfl ?_ | refine B5 rfl rfl rfl rfl ?_ | refine B6 rfl rfl rfl rfl ?_ | refine B7 rfl rfl rfl rfl rfl ?_ | refine B8 rfl rfl rfl rfl rfl ?_ | refine B9 rfl rfl rfl rfl rfl rfl rfl ?_ | refine BA rfl rfl rfl rfl rfl rfl rfl ?_) | (refine IsConv ?_; refine C1 rfl rfl rfl rfl rfl ?_) | (refine IsLoad ?_; first | refine L1 rfl rfl rfl rfl ?_ | refine L2 rfl rfl rfl rfl rfl ?_) | (refine IsStore ?_; refine S1 rfl rfl rfl rfl rfl rfl rfl (fun _ => ?_)) | (refine IsBox ?_; refine N1 rfl rfl rfl rfl (fun _ => ?_)) | (refine IsAlloc ?_; refine N2 rfl rfl rfl rfl (fun _ => ?_)) | (refine IsBuild ?_; refine U1 rfl rfl rfl rfl rfl rfl ?_) | refine V1 rfl rfl rfl ?_) | (refine IsAt ?_; first | (with_reducible first | refine T1 ?_ | refine T2 ?_ | refine T3 ?_ | refine T4 ?_ | refine T5 ?_ | refine T6 ?_ | refine T7 ?_ | refine T8 ?_ | refine T9 ?_ | refine TA ?_ | refine TB ?_ | refine TC ?_) | ((with_reducible show At _ (PBlock _ _ (Exit.exit _)) _ _); first | refine At_block_hit ?_ | refine At_block_miss rfl ?_)) | (refine IsJ ?_; first | refine J_seq ?_ | refine J_region ?_ | refine J_skip ?_ | refine J_ret ?_ | refine J_exit ?_ | (refine IsCond ?_; first | refine J_cond_t rfl ?_ | refine J_cond_f rfl ?_ | refine K1 rfl ?_ | refine K2 rfl ?_ | refine K3 rfl ?_ | refine K4 rfl ?_ | refine J_cb rfl (fun _ => ?_) (fun _ => ?_) | refine J_nb rfl (fun _ => ?_) (fun _ => ?_))))
  · rename_i hlt
    refine J_block ?_
    obtain ⟨y, hy⟩ : ∃ y, ns[i]? = some y := ⟨ns[i]'(by omega), List.getElem?_eq_getElem _⟩
    have hyo := hnd y (List.mem_of_getElem? hy)
    have hye := he10 y (List.mem_of_getElem? hy)
    have hk0 := hyo.k0
    have hk1 := hyo.k1
    have hm0 := hyo.m0
    have hm1 := hyo.m1
    have hnx := needG_next hy
    unfold lenG at hnx
    repeat' (first | (refine IsO ?_; first | refine JO_nil ?_ | (refine IsG ?_; first | refine G1 rfl rfl ?_ | refine G2 rfl ?_) | (refine IsMove ?_; first | refine M1 rfl rfl rfl ?_ | refine M2 rfl rfl rfl ?_ | refine M3 rfl rfl rfl ?_ | refine M4 rfl rfl rfl ?_ | refine M5 rfl rfl rfl (fun _ => ?_) (fun _ => ?_) | refine M6 rfl rfl rfl (fun _ => ?_) (fun _ => ?_)) | (refine IsBin ?_; first | refine B1 rfl rfl rfl rfl ?_ | refine B2 rfl rfl rfl rfl ?_ | refine B3 rfl rfl rfl rfl ?_ | refine B4 rfl rfl rfl rfl ?_ | refine B5 rfl rfl rfl rfl ?_ | refine B6 rfl rfl rfl rfl ?_ | refine B7 rfl rfl rfl rfl rfl ?_ | refine B8 rfl rfl rfl rfl rfl ?_ | refine B9 rfl rfl rfl rfl rfl rfl rfl ?_ | refine BA rfl rfl rfl rfl rfl rfl rfl ?_) | (refine IsConv ?_; refine C1 rfl rfl rfl rfl rfl ?_) | (refine IsLoad ?_; first | refine L1 rfl rfl rfl rfl ?_ | refine L2 rfl rfl rfl rfl rfl ?_) | (refine IsStore ?_; refine S1 rfl rfl rfl rfl rfl rfl rfl (fun _ => ?_)) | (refine IsBox ?_; refine N1 rfl rfl rfl rfl (fun _ => ?_)) | (refine IsAlloc ?_; refine N2 rfl rfl rfl rfl (fun _ => ?_)) | (refine IsBuild ?_; refine U1 rfl rfl rfl rfl rfl rfl ?_) | refine V1 rfl rfl rfl ?_) | (refine IsAt ?_; first | (with_reducible first | refine T1 ?_ | refine T2 ?_ | refine T3 ?_ | refine T4 ?_ | refine T5 ?_ | refine T6 ?_ | refine T7 ?_ | refine T8 ?_ | refine T9 ?_ | refine TA ?_ | refine TB ?_ | refine TC ?_) | ((with_reducible show At _ (PBlock _ _ (Exit.exit _)) _ _); first | refine At_block_hit ?_ | refine At_block_miss rfl ?_)) | (refine IsJ ?_; first | refine J_seq ?_ | refine J_region ?_ | refine J_block ?_ | refine J_skip ?_ | refine J_ret ?_ | refine J_exit ?_ | (refine IsCond ?_; first | refine J_cond_t rfl ?_ | refine J_cond_f rfl ?_ | refine K1 rfl ?_ | refine K2 rfl ?_ | refine K3 rfl ?_ | refine K4 rfl ?_ | refine J_cb rfl (fun _ => ?_) (fun _ => ?_) | refine J_nb rfl (fun _ => ?_) (fun _ => ?_))))
    refine JO_fact _ (fun w hs => hrn.some (by omega) hs (by repeat (first | exact .head _ | refine .tail _ ?_))) ?_
    rintro ⟨b, o, rfl⟩
    refine JO_val (OV_idx (off := o + i * 3) rfl rfl rfl rfl (by omega) (by omega) (by simp)) rfl rfl ?_
    refine JO_q (OQ_readA hrn (by repeat (first | exact .head _ | refine .tail _ ?_)) rfl rfl rfl (by omega) (node_take hy)) rfl rfl ?_
    repeat' (first | (refine IsO ?_; first | refine JO_nil ?_ | (refine IsG ?_; first | refine G1 rfl rfl ?_ | refine G2 rfl ?_) | (refine IsMove ?_; first | refine M1 rfl rfl rfl ?_ | refine M2 rfl rfl rfl ?_ | refine M3 rfl rfl rfl ?_ | refine M4 rfl rfl rfl ?_ | refine M5 rfl rfl rfl (fun _ => ?_) (fun _ => ?_) | refine M6 rfl rfl rfl (fun _ => ?_) (fun _ => ?_)) | (refine IsBin ?_; first | refine B1 rfl rfl rfl rfl ?_ | refine B2 rfl rfl rfl rfl ?_ | refine B3 rfl rfl rfl rfl ?_ | refine B4 rfl rfl rfl rfl ?_ | refine B5 rfl rfl rfl rfl ?_ | refine B6 rfl rfl rfl rfl ?_ | refine B7 rfl rfl rfl rfl rfl ?_ | refine B8 rfl rfl rfl rfl rfl ?_ | refine B9 rfl rfl rfl rfl rfl rfl rfl ?_ | refine BA rfl rfl rfl rfl rfl rfl rfl ?_) | (refine IsConv ?_; refine C1 rfl rfl rfl rfl rfl ?_) | (refine IsLoad ?_; first | refine L1 rfl rfl rfl rfl ?_ | refine L2 rfl rfl rfl rfl rfl ?_) | (refine IsStore ?_; refine S1 rfl rfl rfl rfl rfl rfl rfl (fun _ => ?_)) | (refine IsBox ?_; refine N1 rfl rfl rfl rfl (fun _ => ?_)) | (refine IsAlloc ?_; refine N2 rfl rfl rfl rfl (fun _ => ?_)) | (refine IsBuild ?_; refine U1 rfl rfl rfl rfl rfl rfl ?_) | refine V1 rfl rfl rfl ?_) | (refine IsAt ?_; first | (with_reducible first | refine T1 ?_ | refine T2 ?_ | refine T3 ?_ | refine T4 ?_ | refine T5 ?_ | refine T6 ?_ | refine T7 ?_ | refine T8 ?_ | refine T9 ?_ | refine TA ?_ | refine TB ?_ | refine TC ?_) | ((with_reducible show At _ (PBlock _ _ (Exit.exit _)) _ _); first | refine At_block_hit ?_ | refine At_block_miss rfl ?_)) | (refine IsJ ?_; first | refine J_seq ?_ | refine J_region ?_ | refine J_block ?_ | refine J_skip ?_ | refine J_ret ?_ | refine J_exit ?_ | (refine IsCond ?_; first | refine J_cond_t rfl ?_ | refine J_cond_f rfl ?_ | refine K1 rfl ?_ | refine K2 rfl ?_ | refine K3 rfl ?_ | refine K4 rfl ?_ | refine J_cb rfl (fun _ => ?_) (fun _ => ?_) | refine J_nb rfl (fun _ => ?_) (fun _ => ?_))))
    rw [show ((1 + room + needG (ns.take i) : Nat) : Int) + (3 + (y.es.length : Int) + y.m % 4) = ((1 + room + needG (ns.take (i + 1)) : Nat) : Int) by rw [hnx]; omega]
    exact At_round (i + 1) (by show ns.length - (i + 1) < ns.length - i; omega) (by show i + 1 ≤ ns.length; omega) (by repeat (first | exact True.intro | refine And.intro rfl ?_)) (fun H hl => hl.tail)
  obtain rfl : i = ns.length := by omega
  rw [List.take_length]
  repeat' (first | (refine IsO ?_; first | refine JO_nil ?_ | (refine IsG ?_; first | refine G1 rfl rfl ?_ | refine G2 rfl ?_) | (refine IsMove ?_; first | refine M1 rfl rfl rfl ?_ | refine M2 rfl rfl rfl ?_ | refine M3 rfl rfl rfl ?_ | refine M4 rfl rfl rfl ?_ | refine M5 rfl rfl rfl (fun _ => ?_) (fun _ => ?_) | refine M6 rfl rfl rfl (fun _ => ?_) (fun _ => ?_)) | (refine IsBin ?_; first | refine B1 rfl rfl rfl rfl ?_ | refine B2 rfl rfl rfl rfl ?_ | refine B3 rfl rfl rfl rfl ?_ | refine B4 rfl rfl rfl rfl ?_ | refine B5 rfl rfl rfl rfl ?_ | refine B6 rfl rfl rfl rfl ?_ | refine B7 rfl rfl rfl rfl rfl ?_ | refine B8 rfl rfl rfl rfl rfl ?_ | refine B9 rfl rfl rfl rfl rfl rfl rfl ?_ | refine BA rfl rfl rfl rfl rfl rfl rfl ?_) | (refine IsConv ?_; refine C1 rfl rfl rfl rfl rfl ?_) | (refine IsLoad ?_; first | refine L1 rfl rfl rfl rfl ?_ | refine L2 rfl rfl rfl rfl rfl ?_) | (refine IsStore ?_; refine S1 rfl rfl rfl rfl rfl rfl rfl (fun _ => ?_)) | (refine IsBox ?_; refine N1 rfl rfl rfl rfl (fun _ => ?_)) | (refine IsAlloc ?_; refine N2 rfl rfl rfl rfl (fun _ => ?_)) | (refine IsBuild ?_; refine U1 rfl rfl rfl rfl rfl rfl ?_) | refine V1 rfl rfl rfl ?_) | (refine IsAt ?_; first | (with_reducible first | refine T1 ?_ | refine T2 ?_ | refine T3 ?_ | refine T4 ?_ | refine T5 ?_ | refine T6 ?_ | refine T7 ?_ | refine T8 ?_ | refine T9 ?_ | refine TA ?_ | refine TB ?_ | refine TC ?_) | ((with_reducible show At _ (PBlock _ _ (Exit.exit _)) _ _); first | refine At_block_hit ?_ | refine At_block_miss rfl ?_)) | (refine IsJ ?_; first | refine J_seq ?_ | refine J_region ?_ | refine J_block ?_ | refine J_skip ?_ | refine J_ret ?_ | refine J_exit ?_ | (refine IsCond ?_; first | refine J_cond_t rfl ?_ | refine J_cond_f rfl ?_ | refine K1 rfl ?_ | refine K2 rfl ?_ | refine K3 rfl ?_ | refine K4 rfl ?_ | refine J_cb rfl (fun _ => ?_) (fun _ => ?_) | refine J_nb rfl (fun _ => ?_) (fun _ => ?_))))
  obtain ⟨n, hn⟩ : ∃ n, n = 1 + room + needG ns := ⟨_, rfl⟩
  rw [← hn]
  have hN : Does Try.prog 30 [.int .i64 n] [] _ := heapNew_ok n (by omega) (by omega)
  refine JO_l (OL_call [] rfl rfl rfl (hN) rfl) rfl rfl ?_; rintro _ _ ⟨_, ⟨p, bw, bs, rfl, rfl⟩, rfl⟩
  have hB0 : BInv n 0 (List.replicate n 0) (List.replicate n false) [] [] := ⟨HT.new (by omega), rfl, rfl, RefsOk.new⟩
  generalize List.replicate n (0 : Int) = ws0 at hB0
  generalize List.replicate n false = st0 at hB0
  clear hN
  repeat' (first | (refine IsO ?_; first | refine JO_nil ?_ | (refine IsG ?_; first | refine G1 rfl rfl ?_ | refine G2 rfl ?_) | (refine IsMove ?_; first | refine M1 rfl rfl rfl ?_ | refine M2 rfl rfl rfl ?_ | refine M3 rfl rfl rfl ?_ | refine M4 rfl rfl rfl ?_ | refine M5 rfl rfl rfl (fun _ => ?_) (fun _ => ?_) | refine M6 rfl rfl rfl (fun _ => ?_) (fun _ => ?_)) | (refine IsBin ?_; first | refine B1 rfl rfl rfl rfl ?_ | refine B2 rfl rfl rfl rfl ?_ | refine B3 rfl rfl rfl rfl ?_ | refine B4 rfl rfl rfl rfl ?_ | refine B5 rfl rfl rfl rfl ?_ | refine B6 rfl rfl rfl rfl ?_ | refine B7 rfl rfl rfl rfl rfl ?_ | refine B8 rfl rfl rfl rfl rfl ?_ | refine B9 rfl rfl rfl rfl rfl rfl rfl ?_ | refine BA rfl rfl rfl rfl rfl rfl rfl ?_) | (refine IsConv ?_; refine C1 rfl rfl rfl rfl rfl ?_) | (refine IsLoad ?_; first | refine L1 rfl rfl rfl rfl ?_ | refine L2 rfl rfl rfl rfl rfl ?_) | (refine IsStore ?_; refine S1 rfl rfl rfl rfl rfl rfl rfl (fun _ => ?_)) | (refine IsBox ?_; refine N1 rfl rfl rfl rfl (fun _ => ?_)) | (refine IsAlloc ?_; refine N2 rfl rfl rfl rfl (fun _ => ?_)) | (refine IsBuild ?_; refine U1 rfl rfl rfl rfl rfl rfl ?_) | refine V1 rfl rfl rfl ?_) | (refine IsAt ?_; first | (with_reducible first | refine T1 ?_ | refine T2 ?_ | refine T3 ?_ | refine T4 ?_ | refine T5 ?_ | refine T6 ?_ | refine T7 ?_ | refine T8 ?_ | refine T9 ?_ | refine TA ?_ | refine TB ?_ | refine TC ?_) | ((with_reducible show At _ (PBlock _ _ (Exit.exit _)) _ _); first | refine At_block_hit ?_ | refine At_block_miss rfl ?_)) | (refine IsJ ?_; first | refine J_seq ?_ | refine J_region ?_ | refine J_block ?_ | refine J_skip ?_ | refine J_ret ?_ | refine J_exit ?_ | (refine IsCond ?_; first | refine J_cond_t rfl ?_ | refine J_cond_f rfl ?_ | refine K1 rfl ?_ | refine K2 rfl ?_ | refine K3 rfl ?_ | refine K4 rfl ?_ | refine J_cb rfl (fun _ => ?_) (fun _ => ?_) | refine J_nb rfl (fun _ => ?_) (fun _ => ?_))))
  rename_i b12 _
  refine J_loop (α := Nat × List Int × List Bool × Option Addr × Nat × List RO × Option Addr × Nat)
    (fun x => x.1 ≤ ns.length ∧ BInv n (layG (ns.take x.1)).T x.2.1 x.2.2.1 x.2.2.2.2.2.1 (layG (ns.take x.1)).hs)
    (fun x => [(2, ptr bg 0), (4, .pointer none), (5, .slice none 0 0), (6, ptr b6 0), (10, ptr p 0), (12, ptr b12 0), (13, .slice x.2.2.2.2.2.2.1 x.1 x.2.2.2.2.2.2.2), (57, .slice na ns.length nc), (58, .int .i64 ns.length), (59, .int .i64 x.1)])
    (fun x => [rowz 3 1 x.2.2.2.2.2.2.1 x.1 x.2.2.2.2.2.2.2 (intsV (layG (ns.take x.1)).at_), blk b12 [.int .i64 n, .slice x.2.2.2.1 x.2.2.2.2.2.1.length x.2.2.2.2.1] 33] ++ heapL p bw bs n x.2.1 (layG (ns.take x.1)).T x.2.2.1 ++ refL x.2.2.2.1 x.2.2.2.2.1 x.2.2.2.2.2.1 ++ [blk b6 [.int .i64 0, .slice none 0 0] 33, blk bg [.slice na ns.length nc, .slice ra0 rs.length rc0] 25, R])
    (fun x => ns.length - x.1) (0, ws0, st0, none, 0, [], none, 0) ⟨Nat.zero_le _, hB0⟩ (by repeat (first | exact True.intro | refine And.intro rfl ?_))
    (fun H hl => (rowz_nil (T := 3) (sz := 1) (a := none) (rowz_nil (T := 47) (sz := 5) (a := none) (RW_nil hl))).pick (is := [0, 2, 2, 2, 2, 0, 0, 0, 0, 0]) rfl) ?_
  rintro ⟨i, ws, st, a, cap, os, ta, tc⟩ ⟨hi, hB⟩
  dsimp only at hi hB ⊢
  repeat' (first | (refine IsO ?_; first | refine JO_nil ?_ | (refine IsG ?_; first | refine G1 rfl rfl ?_ | refine G2 rfl ?_) | (refine IsMove ?_; first | refine M1 rfl rfl rfl ?_ | refine M2 rfl rfl rfl ?_ | refine M3 rfl rfl rfl ?_ | refine M4 rfl rfl rfl ?_ | refine M5 rfl rfl rfl (fun _ => ?_) (fun _ => ?_) | refine M6 rfl rfl rfl (fun _ => ?_) (fun _ => ?_)) | (refine IsBin ?_; first | refine B1 rfl rfl rfl rfl ?_ | refine B2 rfl rfl rfl rfl ?_ | refine B3 rfl rfl rfl rfl ?_ | refine B4 rfl rfl rfl rfl ?_ | refine B5 rfl rfl rfl rfl ?_ | refine B6 rfl rfl rfl rfl ?_ | refine B7 rfl rfl rfl rfl rfl ?_ | refine B8 rfl rfl rfl rfl rfl ?_ | refine B9 rfl rfl rfl rfl rfl rfl rfl ?_ | refine BA rfl rfl rfl rfl rfl rfl rfl ?_) | (refine IsConv ?_; refine C1 rfl rfl rfl rfl rfl ?_) | (refine IsLoad ?_; first | refine L1 rfl rfl rfl rfl ?_ | refine L2 rfl rfl rfl rfl rfl ?_) | (refine IsStore ?_; refine S1 rfl rfl rfl rfl rfl rfl rfl (fun _ => ?_)) | (refine IsBox ?_; refine N1 rfl rfl rfl rfl (fun _ => ?_)) | (refine IsAlloc ?_; refine N2 rfl rfl rfl rfl (fun _ => ?_)) | (refine IsBuild ?_; refine U1 rfl rfl rfl rfl rfl rfl ?_) | refine V1 rfl rfl rfl ?_) | (refine IsAt ?_; first | (with_reducible first | refine T1 ?_ | refine T2 ?_ | refine T3 ?_ | refine T4 ?_ | refine T5 ?_ | refine T6 ?_ | refine T7 ?_ | refine T8 ?_ | refine T9 ?_ | refine TA ?_ | refine TB ?_ | refine TC ?_) | ((with_reducible show At _ (PBlock _ _ (Exit.exit _)) _ _); first | refine At_block_hit ?_ | refine At_block_miss rfl ?_)) | (refine IsJ ?_; first | refine J_seq ?_ | refine J_region ?_ | refine J_skip ?_ | refine J_ret ?_ | refine J_exit ?_ | (refine IsCond ?_; first | refine J_cond_t rfl ?_ | refine J_cond_f rfl ?_ | refine K1 rfl ?_ | refine K2 rfl ?_ | refine K3 rfl ?_ | refine K4 rfl ?_ | refine J_cb rfl (fun _ => ?_) (fun _ => ?_) | refine J_nb rfl (fun _ => ?_) (fun _ => ?_))))
  · rename_i hlt
    refine J_block ?_
    obtain ⟨y, hy⟩ : ∃ y, ns[i]? = some y := ⟨ns[i]'(by omega), List.getElem?_eq_getElem _⟩
    have hyo := hnd y (List.mem_of_getElem? hy)
    have hye := he10 y (List.mem_of_getElem? hy)
    have hk0 := hyo.k0
    have hk1 := hyo.k1
    have hm0 := hyo.m0
    have hm1 := hyo.m1
    obtain ⟨hLi, hLa, hLT, hLb⟩ := layG_i (ns := ns) (i := i) hi
    have hnx := needG_next hy
    have hnt := needG_le (ns := ns) (i := i + 1)
    have hlx := layG_next hy
    generalize layG (ns.take i) = s at hLi hLa hLT hLb hlx hB ⊢
    obtain ⟨m2, hm2⟩ := Int.eq_ofNat_of_zero_le (show 0 ≤ y.k % 2 by omega)
    have hfill : (fillG s y).T ≤ s.T + 2 := by
      unfold fillG
      split
      · dsimp only; omega
      · omega
    have hmlen : (y.es.length : Int) + y.m % 4 = (lenG y : Nat) := by unfold lenG; omega
    have hlG : lenG y ≤ 13 := by unfold lenG; omega
    have htn := hB.ht.tn
    repeat' (first | (refine IsO ?_; first | refine JO_nil ?_ | (refine IsG ?_; first | refine G1 rfl rfl ?_ | refine G2 rfl ?_) | (refine IsMove ?_; first | refine M1 rfl rfl rfl ?_ | refine M2 rfl rfl rfl ?_ | refine M3 rfl rfl rfl ?_ | refine M4 rfl rfl rfl ?_ | refine M5 rfl rfl rfl (fun _ => ?_) (fun _ => ?_) | refine M6 rfl rfl rfl (fun _ => ?_) (fun _ => ?_)) | (refine IsBin ?_; first | refine B1 rfl rfl rfl rfl ?_ | refine B2 rfl rfl rfl rfl ?_ | refine B3 rfl rfl rfl rfl ?_ | refine B4 rfl rfl rfl rfl ?_ | refine B5 rfl rfl rfl rfl ?_ | refine B6 rfl rfl rfl rfl ?_ | refine B7 rfl rfl rfl rfl rfl ?_ | refine B8 rfl rfl rfl rfl rfl ?_ | refine B9 rfl rfl rfl rfl rfl rfl rfl ?_ | refine BA rfl rfl rfl rfl rfl rfl rfl ?_) | (refine IsConv ?_; refine C1 rfl rfl rfl rfl rfl ?_) | (refine IsLoad ?_; first | refine L1 rfl rfl rfl rfl ?_ | refine L2 rfl rfl rfl rfl rfl ?_) | (refine IsStore ?_; refine S1 rfl rfl rfl rfl rfl rfl rfl (fun _ => ?_)) | (refine IsBox ?_; refine N1 rfl rfl rfl rfl (fun _ => ?_)) | (refine IsAlloc ?_; refine N2 rfl rfl rfl rfl (fun _ => ?_)) | (refine IsBuild ?_; refine U1 rfl rfl rfl rfl rfl rfl ?_) | refine V1 rfl rfl rfl ?_) | (refine IsAt ?_; first | (with_reducible first | refine T1 ?_ | refine T2 ?_ | refine T3 ?_ | refine T4 ?_ | refine T5 ?_ | refine T6 ?_ | refine T7 ?_ | refine T8 ?_ | refine T9 ?_ | refine TA ?_ | refine TB ?_ | refine TC ?_) | ((with_reducible show At _ (PBlock _ _ (Exit.exit _)) _ _); first | refine At_block_hit ?_ | refine At_block_miss rfl ?_)) | (refine IsJ ?_; first | refine J_seq ?_ | refine J_region ?_ | refine J_block ?_ | refine J_skip ?_ | refine J_ret ?_ | refine J_exit ?_ | (refine IsCond ?_; first | refine J_cond_t rfl ?_ | refine J_cond_f rfl ?_ | refine K1 rfl ?_ | refine K2 rfl ?_ | refine K3 rfl ?_ | refine K4 rfl ?_ | refine J_cb rfl (fun _ => ?_) (fun _ => ?_) | refine J_nb rfl (fun _ => ?_) (fun _ => ?_))))
    refine JO_fact _ (fun w hs => hrn.some (by omega) hs (by repeat (first | exact .head _ | refine .tail _ ?_))) ?_
    rintro ⟨b, o, rfl⟩
    refine JO_val (OV_idx (off := o + i * 3) rfl rfl rfl rfl (by omega) (by omega) (by simp)) rfl rfl ?_
    refine JO_q (OQ_readA hrn (by repeat (first | exact .head _ | refine .tail _ ?_)) rfl rfl rfl (by omega) (node_take hy)) rfl rfl ?_
    repeat' ((fail_if_success (with_reducible show J _ (Code.cond (Operand.tmp 66) _ _) _ _ _)); first | (refine IsO ?_; first | refine JO_nil ?_ | (refine IsG ?_; first | refine G1 rfl rfl ?_ | refine G2 rfl ?_) | (refine IsMove ?_; first | refine M1 rfl rfl rfl ?_ | refine M2 rfl rfl rfl ?_ | refine M3 rfl rfl rfl ?_ | refine M4 rfl rfl rfl ?_ | refine M5 rfl rfl rfl (fun _ => ?_) (fun _ => ?_) | refine M6 rfl rfl rfl (fun _ => ?_) (fun _ => ?_)) | (refine IsBin ?_; first | refine B1 rfl rfl rfl rfl ?_ | refine B2 rfl rfl rfl rfl ?_ | refine B3 rfl rfl rfl rfl ?_ | refine B4 rfl rfl rfl rfl ?_ | refine B5 rfl rfl rfl rfl ?_ | refine B6 rfl rfl rfl rfl ?_ | refine B7 rfl rfl rfl rfl rfl ?_ | refine B8 rfl rfl rfl rfl rfl ?_ | refine B9 rfl rfl rfl rfl rfl rfl rfl ?_ | refine BA rfl rfl rfl rfl rfl rfl rfl ?_) | (refine IsConv ?_; refine C1 rfl rfl rfl rfl rfl ?_) | (refine IsLoad ?_; first | refine L1 rfl rfl rfl rfl ?_ | refine L2 rfl rfl rfl rfl rfl ?_) | (refine IsStore ?_; refine S1 rfl rfl rfl rfl rfl rfl rfl (fun _ => ?_)) | (refine IsBox ?_; refine N1 rfl rfl rfl rfl (fun _ => ?_)) | (refine IsAlloc ?_; refine N2 rfl rfl rfl rfl (fun _ => ?_)) | (refine IsBuild ?_; refine U1 rfl rfl rfl rfl rfl rfl ?_) | refine V1 rfl rfl rfl ?_) | (refine IsAt ?_; first | (with_reducible first | refine T1 ?_ | refine T2 ?_ | refine T3 ?_ | refine T4 ?_ | refine T5 ?_ | refine T6 ?_ | refine T7 ?_ | refine T8 ?_ | refine T9 ?_ | refine TA ?_ | refine TB ?_ | refine TC ?_) | ((with_reducible show At _ (PBlock _ _ (Exit.exit _)) _ _); first | refine At_block_hit ?_ | refine At_block_miss rfl ?_)) | (refine IsJ ?_; first | refine J_seq ?_ | refine J_region ?_ | refine J_block ?_ | refine J_skip ?_ | refine J_ret ?_ | refine J_exit ?_ | (refine IsCond ?_; first | refine J_cond_t rfl ?_ | refine J_cond_f rfl ?_ | refine K1 rfl ?_ | refine K2 rfl ?_ | refine K3 rfl ?_ | refine K4 rfl ?_ | refine J_cb rfl (fun _ => ?_) (fun _ => ?_) | refine J_nb rfl (fun _ => ?_) (fun _ => ?_))))
    rename_i b15 _
    refine J_cutP (α := List Int × List Bool × Option Addr × Nat × List RO) (fun x => BInv n (fillG s y).T x.1 x.2.1 x.2.2.2.2 (fillG s y).hs)
      (fun x => [(2, ptr bg 0), (4, .pointer none), (5, .slice none 0 0), (6, ptr b6 0), (10, ptr p 0), (12, ptr b12 0), (13, .slice ta i tc), (15, ptr b15 0), (57, .slice (some ⟨b, o, none⟩) ns.length nc), (58, .int .i64 ns.length), (59, .int .i64 i)])
      (fun x => [blk b15 (cellsN y) 78, rowz 3 1 ta i tc (intsV s.at_), blk b12 [.int .i64 n, .slice x.2.2.1 x.2.2.2.2.length x.2.2.2.1] 33] ++ heapL p bw bs n x.1 (fillG s y).T x.2.1 ++ refL x.2.2.1 x.2.2.2.1 x.2.2.2.2 ++ [blk b6 [.int .i64 0, .slice none 0 0] 33, blk bg [.slice (some ⟨b, o, none⟩) ns.length nc, .slice ra0 rs.length rc0] 25, R]) ?_ ?_
    · by_cases h3 : (i : Int) % 3 = 2
      · have eF : fillG s y = ⟨s.i, s.T + 1 + m2, s.at_, s.hs ++ [(15, m2, 0)]⟩ := by unfold fillG; rw [if_pos (by omega), hm2]; rfl
        rw [eF]
        have hg : goodB 15 (m2 : Nat) 0 = true := decide_eq_true (by omega)
        repeat' (first | (refine IsO ?_; first | refine JO_nil ?_ | (refine IsG ?_; first | refine G1 rfl rfl ?_ | refine G2 rfl ?_) | (refine IsMove ?_; first | refine M1 rfl rfl rfl ?_ | refine M2 rfl rfl rfl ?_ | refine M3 rfl rfl rfl ?_ | refine M4 rfl rfl rfl ?_ | refine M5 rfl rfl rfl (fun _ => ?_) (fun _ => ?_) | refine M6 rfl rfl rfl (fun _ => ?_) (fun _ => ?_)) | (refine IsBin ?_; first | refine B1 rfl rfl rfl rfl ?_ | refine B2 rfl rfl rfl rfl ?_ | refine B3 rfl rfl rfl rfl ?_ | refine B4 rfl rfl rfl rfl ?_ | refine B5 rfl rfl rfl rfl ?_ | refine B6 rfl rfl rfl rfl ?_ | refine B7 rfl rfl rfl rfl rfl ?_ | refine B8 rfl rfl rfl rfl rfl ?_ | refine B9 rfl rfl rfl rfl rfl rfl rfl ?_ | refine BA rfl rfl rfl rfl rfl rfl rfl ?_) | (refine IsConv ?_; refine C1 rfl rfl rfl rfl rfl ?_) | (refine IsLoad ?_; first | refine L1 rfl rfl rfl rfl ?_ | refine L2 rfl rfl rfl rfl rfl ?_) | (refine IsStore ?_; refine S1 rfl rfl rfl rfl rfl rfl rfl (fun _ => ?_)) | (refine IsBox ?_; refine N1 rfl rfl rfl rfl (fun _ => ?_)) | (refine IsAlloc ?_; refine N2 rfl rfl rfl rfl (fun _ => ?_)) | (refine IsBuild ?_; refine U1 rfl rfl rfl rfl rfl rfl ?_) | refine V1 rfl rfl rfl ?_) | (refine IsAt ?_; first | (with_reducible first | refine T1 ?_ | refine T2 ?_ | refine T3 ?_ | refine T4 ?_ | refine T5 ?_ | refine T6 ?_ | refine T7 ?_ | refine T8 ?_ | refine T9 ?_ | refine TA ?_ | refine TB ?_ | refine TC ?_) | ((with_reducible show At _ (PBlock _ _ (Exit.exit _)) _ _); first | refine At_block_hit ?_ | refine At_block_miss rfl ?_)) | (refine IsJ ?_; first | refine J_seq ?_ | refine J_region ?_ | refine J_block ?_ | refine J_skip ?_ | refine J_ret ?_ | refine J_exit ?_ | (refine IsCond ?_; first | refine J_cond_t rfl ?_ | refine J_cond_f rfl ?_ | refine K1 rfl ?_ | refine K2 rfl ?_ | refine K3 rfl ?_ | refine K4 rfl ?_ | refine J_cb rfl (fun _ => ?_) (fun _ => ?_) | refine J_nb rfl (fun _ => ?_) (fun _ => ?_))))
        rw [hm2]
        refine JO_l (OL_call [3, 3, 3] rfl rfl rfl (Place_ok 15 0 m2 s.T hB.ht.wl hB.ht.sl hB.ht.nb hg (by omega)) rfl) rfl rfl ?_; rintro _ _ ⟨_, ⟨rfl, rfl⟩, rfl⟩
        repeat' (first | (refine IsO ?_; first | refine JO_nil ?_ | (refine IsG ?_; first | refine G1 rfl rfl ?_ | refine G2 rfl ?_) | (refine IsMove ?_; first | refine M1 rfl rfl rfl ?_ | refine M2 rfl rfl rfl ?_ | refine M3 rfl rfl rfl ?_ | refine M4 rfl rfl rfl ?_ | refine M5 rfl rfl rfl (fun _ => ?_) (fun _ => ?_) | refine M6 rfl rfl rfl (fun _ => ?_) (fun _ => ?_)) | (refine IsBin ?_; first | refine B1 rfl rfl rfl rfl ?_ | refine B2 rfl rfl rfl rfl ?_ | refine B3 rfl rfl rfl rfl ?_ | refine B4 rfl rfl rfl rfl ?_ | refine B5 rfl rfl rfl rfl ?_ | refine B6 rfl rfl rfl rfl ?_ | refine B7 rfl rfl rfl rfl rfl ?_ | refine B8 rfl rfl rfl rfl rfl ?_ | refine B9 rfl rfl rfl rfl rfl rfl rfl ?_ | refine BA rfl rfl rfl rfl rfl rfl rfl ?_) | (refine IsConv ?_; refine C1 rfl rfl rfl rfl rfl ?_) | (refine IsLoad ?_; first | refine L1 rfl rfl rfl rfl ?_ | refine L2 rfl rfl rfl rfl rfl ?_) | (refine IsStore ?_; refine S1 rfl rfl rfl rfl rfl rfl rfl (fun _ => ?_)) | (refine IsBox ?_; refine N1 rfl rfl rfl rfl (fun _ => ?_)) | (refine IsAlloc ?_; refine N2 rfl rfl rfl rfl (fun _ => ?_)) | (refine IsBuild ?_; refine U1 rfl rfl rfl rfl rfl rfl ?_) | refine V1 rfl rfl rfl ?_) | (refine IsAt ?_; first | (with_reducible first | refine T1 ?_ | refine T2 ?_ | refine T3 ?_ | refine T4 ?_ | refine T5 ?_ | refine T6 ?_ | refine T7 ?_ | refine T8 ?_ | refine T9 ?_ | refine TA ?_ | refine TB ?_ | refine TC ?_) | ((with_reducible show At _ (PBlock _ _ (Exit.exit _)) _ _); first | refine At_block_hit ?_ | refine At_block_miss rfl ?_)) | (refine IsJ ?_; first | refine J_seq ?_ | refine J_region ?_ | refine J_block ?_ | refine J_skip ?_ | refine J_ret ?_ | refine J_exit ?_ | (refine IsCond ?_; first | refine J_cond_t rfl ?_ | refine J_cond_f rfl ?_ | refine K1 rfl ?_ | refine K2 rfl ?_ | refine K3 rfl ?_ | refine K4 rfl ?_ | refine J_cb rfl (fun _ => ?_) (fun _ => ?_) | refine J_nb rfl (fun _ => ?_) (fun _ => ?_))))
        rw [hm2]
        refine JO_l (OL_call [6, 6] rfl rfl rfl (refPlace_ok 15 0 m2 hB.ch hB.ht.tn hB.ht.nb hg (by omega)) rfl) rfl rfl ?_; rintro _ _ ⟨_, ⟨a4, c4, wa, wc, rfl, rfl⟩, rfl⟩
        repeat' (first | (refine IsO ?_; first | refine JO_nil ?_ | (refine IsG ?_; first | refine G1 rfl rfl ?_ | refine G2 rfl ?_) | (refine IsMove ?_; first | refine M1 rfl rfl rfl ?_ | refine M2 rfl rfl rfl ?_ | refine M3 rfl rfl rfl ?_ | refine M4 rfl rfl rfl ?_ | refine M5 rfl rfl rfl (fun _ => ?_) (fun _ => ?_) | refine M6 rfl rfl rfl (fun _ => ?_) (fun _ => ?_)) | (refine IsBin ?_; first | refine B1 rfl rfl rfl rfl ?_ | refine B2 rfl rfl rfl rfl ?_ | refine B3 rfl rfl rfl rfl ?_ | refine B4 rfl rfl rfl rfl ?_ | refine B5 rfl rfl rfl rfl ?_ | refine B6 rfl rfl rfl rfl ?_ | refine B7 rfl rfl rfl rfl rfl ?_ | refine B8 rfl rfl rfl rfl rfl ?_ | refine B9 rfl rfl rfl rfl rfl rfl rfl ?_ | refine BA rfl rfl rfl rfl rfl rfl rfl ?_) | (refine IsConv ?_; refine C1 rfl rfl rfl rfl rfl ?_) | (refine IsLoad ?_; first | refine L1 rfl rfl rfl rfl ?_ | refine L2 rfl rfl rfl rfl rfl ?_) | (refine IsStore ?_; refine S1 rfl rfl rfl rfl rfl rfl rfl (fun _ => ?_)) | (refine IsBox ?_; refine N1 rfl rfl rfl rfl (fun _ => ?_)) | (refine IsAlloc ?_; refine N2 rfl rfl rfl rfl (fun _ => ?_)) | (refine IsBuild ?_; refine U1 rfl rfl rfl rfl rfl rfl ?_) | refine V1 rfl rfl rfl ?_) | (refine IsAt ?_; first | (with_reducible first | refine T1 ?_ | refine T2 ?_ | refine T3 ?_ | refine T4 ?_ | refine T5 ?_ | refine T6 ?_ | refine T7 ?_ | refine T8 ?_ | refine T9 ?_ | refine TA ?_ | refine TB ?_ | refine TC ?_) | ((with_reducible show At _ (PBlock _ _ (Exit.exit _)) _ _); first | refine At_block_hit ?_ | refine At_block_miss rfl ?_)) | (refine IsJ ?_; first | refine J_seq ?_ | refine J_region ?_ | refine J_block ?_ | refine J_skip ?_ | refine J_ret ?_ | refine J_exit ?_ | (refine IsCond ?_; first | refine J_cond_t rfl ?_ | refine J_cond_f rfl ?_ | refine K1 rfl ?_ | refine K2 rfl ?_ | refine K3 rfl ?_ | refine K4 rfl ?_ | refine J_cb rfl (fun _ => ?_) (fun _ => ?_) | refine J_nb rfl (fun _ => ?_) (fun _ => ?_))))
        exact At_meet (_, _, a4, c4, _) (hB.place hg (by omega) wa wc) (by repeat (first | exact True.intro | refine And.intro rfl ?_)) (fun H hl => hl.pick (is := [6, 6, 0, 2, 2, 2, 0, 0, 0, 0, 0]) rfl)
      · have eF : fillG s y = s := by unfold fillG; rw [if_neg (by omega)]
        rw [eF]
        repeat' (first | (refine IsO ?_; first | refine JO_nil ?_ | (refine IsG ?_; first | refine G1 rfl rfl ?_ | refine G2 rfl ?_) | (refine IsMove ?_; first | refine M1 rfl rfl rfl ?_ | refine M2 rfl rfl rfl ?_ | refine M3 rfl rfl rfl ?_ | refine M4 rfl rfl rfl ?_ | refine M5 rfl rfl rfl (fun _ => ?_) (fun _ => ?_) | refine M6 rfl rfl rfl (fun _ => ?_) (fun _ => ?_)) | (refine IsBin ?_; first | refine B1 rfl rfl rfl rfl ?_ | refine B2 rfl rfl rfl rfl ?_ | refine B3 rfl rfl rfl rfl ?_ | refine B4 rfl rfl rfl rfl ?_ | refine B5 rfl rfl rfl rfl ?_ | refine B6 rfl rfl rfl rfl ?_ | refine B7 rfl rfl rfl rfl rfl ?_ | refine B8 rfl rfl rfl rfl rfl ?_ | refine B9 rfl rfl rfl rfl rfl rfl rfl ?_ | refine BA rfl rfl rfl rfl rfl rfl rfl ?_) | (refine IsConv ?_; refine C1 rfl rfl rfl rfl rfl ?_) | (refine IsLoad ?_; first | refine L1 rfl rfl rfl rfl ?_ | refine L2 rfl rfl rfl rfl rfl ?_) | (refine IsStore ?_; refine S1 rfl rfl rfl rfl rfl rfl rfl (fun _ => ?_)) | (refine IsBox ?_; refine N1 rfl rfl rfl rfl (fun _ => ?_)) | (refine IsAlloc ?_; refine N2 rfl rfl rfl rfl (fun _ => ?_)) | (refine IsBuild ?_; refine U1 rfl rfl rfl rfl rfl rfl ?_) | refine V1 rfl rfl rfl ?_) | (refine IsAt ?_; first | (with_reducible first | refine T1 ?_ | refine T2 ?_ | refine T3 ?_ | refine T4 ?_ | refine T5 ?_ | refine T6 ?_ | refine T7 ?_ | refine T8 ?_ | refine T9 ?_ | refine TA ?_ | refine TB ?_ | refine TC ?_) | ((with_reducible show At _ (PBlock _ _ (Exit.exit _)) _ _); first | refine At_block_hit ?_ | refine At_block_miss rfl ?_)) | (refine IsJ ?_; first | refine J_seq ?_ | refine J_region ?_ | refine J_block ?_ | refine J_skip ?_ | refine J_ret ?_ | refine J_exit ?_ | (refine IsCond ?_; first | refine J_cond_t rfl ?_ | refine J_cond_f rfl ?_ | refine K1 rfl ?_ | refine K2 rfl ?_ | refine K3 rfl ?_ | refine K4 rfl ?_ | refine J_cb rfl (fun _ => ?_) (fun _ => ?_) | refine J_nb rfl (fun _ => ?_) (fun _ => ?_))))
        exact At_meet (ws, st, a, cap, os) hB (by repeat (first | exact True.intro | refine And.intro rfl ?_)) (fun H hl => hl)
    · clear hB
      rintro ⟨ws1, st1, a1, cap1, os1⟩ hB
      dsimp only at hB ⊢
      obtain ⟨Tq, hTq⟩ : ∃ Tq, Tq = (fillG s y).T := ⟨_, rfl⟩
      have hlx1 : layG (ns.take (i + 1)) = ⟨i + 1, Tq + 1 + lenG y, s.at_ ++ [(Tq : Int)], (fillG s y).hs ++ [(y.k % 15, lenG y, (y.es.length : Int))]⟩ := by
        rw [hlx, hTq]
        unfold stepG nodeG
        have e1 : (fillG s y).i = i := by unfold fillG; split <;> exact hLi
        have e2 : (fillG s y).at_ = s.at_ := by unfold fillG; split <;> rfl
        rw [e1, e2]
      rw [← hTq] at hB hfill ⊢
      have hk15 : 0 ≤ y.k % 15 ∧ y.k % 15 < 15 := by omega
      have hg : goodB (y.k % 15) (lenG y) y.es.length = true := decide_eq_true (by omega)
      have htn := hB.ht.tn
      have hnb := hB.ht.nb
      repeat' (first | (refine IsO ?_; first | refine JO_nil ?_ | (refine IsG ?_; first | refine G1 rfl rfl ?_ | refine G2 rfl ?_) | (refine IsMove ?_; first | refine M1 rfl rfl rfl ?_ | refine M2 rfl rfl rfl ?_ | refine M3 rfl rfl rfl ?_ | refine M4 rfl rfl rfl ?_ | refine M5 rfl rfl rfl (fun _ => ?_) (fun _ => ?_) | refine M6 rfl rfl rfl (fun _ => ?_) (fun _ => ?_)) | (refine IsBin ?_; first | refine B1 rfl rfl rfl rfl ?_ | refine B2 rfl rfl rfl rfl ?_ | refine B3 rfl rfl rfl rfl ?_ | refine B4 rfl rfl rfl rfl ?_ | refine B5 rfl rfl rfl rfl ?_ | refine B6 rfl rfl rfl rfl ?_ | refine B7 rfl rfl rfl rfl rfl ?_ | refine B8 rfl rfl rfl rfl rfl ?_ | refine B9 rfl rfl rfl rfl rfl rfl rfl ?_ | refine BA rfl rfl rfl rfl rfl rfl rfl ?_) | (refine IsConv ?_; refine C1 rfl rfl rfl rfl rfl ?_) | (refine IsLoad ?_; first | refine L1 rfl rfl rfl rfl ?_ | refine L2 rfl rfl rfl rfl rfl ?_) | (refine IsStore ?_; refine S1 rfl rfl rfl rfl rfl rfl rfl (fun _ => ?_)) | (refine IsBox ?_; refine N1 rfl rfl rfl rfl (fun _ => ?_)) | (refine IsAlloc ?_; refine N2 rfl rfl rfl rfl (fun _ => ?_)) | (refine IsBuild ?_; refine U1 rfl rfl rfl rfl rfl rfl ?_) | refine V1 rfl rfl rfl ?_) | (refine IsAt ?_; first | (with_reducible first | refine T1 ?_ | refine T2 ?_ | refine T3 ?_ | refine T4 ?_ | refine T5 ?_ | refine T6 ?_ | refine T7 ?_ | refine T8 ?_ | refine T9 ?_ | refine TA ?_ | refine TB ?_ | refine TC ?_) | ((with_reducible show At _ (PBlock _ _ (Exit.exit _)) _ _); first | refine At_block_hit ?_ | refine At_block_miss rfl ?_)) | (refine IsJ ?_; first | refine J_seq ?_ | refine J_region ?_ | refine J_block ?_ | refine J_skip ?_ | refine J_ret ?_ | refine J_exit ?_ | (refine IsCond ?_; first | refine J_cond_t rfl ?_ | refine J_cond_f rfl ?_ | refine K1 rfl ?_ | refine K2 rfl ?_ | refine K3 rfl ?_ | refine K4 rfl ?_ | refine J_cb rfl (fun _ => ?_) (fun _ => ?_) | refine J_nb rfl (fun _ => ?_) (fun _ => ?_))))
      rw [hmlen]
      rename_i b16 _
      refine JO_l (OL_call [4, 4, 4] rfl rfl rfl (Place_ok (y.k % 15) y.es.length (lenG y) Tq hB.ht.wl hB.ht.sl hB.ht.nb hg (by omega)) rfl) rfl rfl ?_; rintro _ _ ⟨_, ⟨rfl, rfl⟩, rfl⟩
      repeat' (first | (refine IsO ?_; first | refine JO_nil ?_ | (refine IsG ?_; first | refine G1 rfl rfl ?_ | refine G2 rfl ?_) | (refine IsMove ?_; first | refine M1 rfl rfl rfl ?_ | refine M2 rfl rfl rfl ?_ | refine M3 rfl rfl rfl ?_ | refine M4 rfl rfl rfl ?_ | refine M5 rfl rfl rfl (fun _ => ?_) (fun _ => ?_) | refine M6 rfl rfl rfl (fun _ => ?_) (fun _ => ?_)) | (refine IsBin ?_; first | refine B1 rfl rfl rfl rfl ?_ | refine B2 rfl rfl rfl rfl ?_ | refine B3 rfl rfl rfl rfl ?_ | refine B4 rfl rfl rfl rfl ?_ | refine B5 rfl rfl rfl rfl ?_ | refine B6 rfl rfl rfl rfl ?_ | refine B7 rfl rfl rfl rfl rfl ?_ | refine B8 rfl rfl rfl rfl rfl ?_ | refine B9 rfl rfl rfl rfl rfl rfl rfl ?_ | refine BA rfl rfl rfl rfl rfl rfl rfl ?_) | (refine IsConv ?_; refine C1 rfl rfl rfl rfl rfl ?_) | (refine IsLoad ?_; first | refine L1 rfl rfl rfl rfl ?_ | refine L2 rfl rfl rfl rfl rfl ?_) | (refine IsStore ?_; refine S1 rfl rfl rfl rfl rfl rfl rfl (fun _ => ?_)) | (refine IsBox ?_; refine N1 rfl rfl rfl rfl (fun _ => ?_)) | (refine IsAlloc ?_; refine N2 rfl rfl rfl rfl (fun _ => ?_)) | (refine IsBuild ?_; refine U1 rfl rfl rfl rfl rfl rfl ?_) | refine V1 rfl rfl rfl ?_) | (refine IsAt ?_; first | (with_reducible first | refine T1 ?_ | refine T2 ?_ | refine T3 ?_ | refine T4 ?_ | refine T5 ?_ | refine T6 ?_ | refine T7 ?_ | refine T8 ?_ | refine T9 ?_ | refine TA ?_ | refine TB ?_ | refine TC ?_) | ((with_reducible show At _ (PBlock _ _ (Exit.exit _)) _ _); first | refine At_block_hit ?_ | refine At_block_miss rfl ?_)) | (refine IsJ ?_; first | refine J_seq ?_ | refine J_region ?_ | refine J_block ?_ | refine J_skip ?_ | refine J_ret ?_ | refine J_exit ?_ | (refine IsCond ?_; first | refine J_cond_t rfl ?_ | refine J_cond_f rfl ?_ | refine K1 rfl ?_ | refine K2 rfl ?_ | refine K3 rfl ?_ | refine K4 rfl ?_ | refine J_cb rfl (fun _ => ?_) (fun _ => ?_) | refine J_nb rfl (fun _ => ?_) (fun _ => ?_))))
      refine JO_l (OL_call [7, 7] rfl rfl rfl (refPlace_ok (y.k % 15) y.es.length (lenG y) hB.ch hB.ht.tn hB.ht.nb hg (by omega)) rfl) rfl rfl ?_; rintro _ _ ⟨_, ⟨a4, c4, wa, wc, rfl, rfl⟩, rfl⟩
      have hB2 := hB.place hg (by omega) wa wc
      generalize zeroAt (ws1.set Tq (packI (y.k % 15) (lenG y) (y.es.length : Int))) (Tq + 1) (lenG y) = ws2 at hB2 ⊢
      generalize st1.set Tq true = st2 at hB2 ⊢
      generalize os1 ++ [(⟨Tq, y.k % 15, y.es.length, List.replicate (lenG y) 0, wa, wc⟩ : RO)] = os2 at hB2 ⊢
      refine JO_hp (fun H hl => hl.pick (is := [8, 7, 2, 2, 2, 0, 0, 2, 2, 2]) rfl) ?_
      repeat' (first | (refine IsO ?_; first | refine JO_nil ?_ | (refine IsG ?_; first | refine G1 rfl rfl ?_ | refine G2 rfl ?_) | (refine IsMove ?_; first | refine M1 rfl rfl rfl ?_ | refine M2 rfl rfl rfl ?_ | refine M3 rfl rfl rfl ?_ | refine M4 rfl rfl rfl ?_ | refine M5 rfl rfl rfl (fun _ => ?_) (fun _ => ?_) | refine M6 rfl rfl rfl (fun _ => ?_) (fun _ => ?_)) | (refine IsBin ?_; first | refine B1 rfl rfl rfl rfl ?_ | refine B2 rfl rfl rfl rfl ?_ | refine B3 rfl rfl rfl rfl ?_ | refine B4 rfl rfl rfl rfl ?_ | refine B5 rfl rfl rfl rfl ?_ | refine B6 rfl rfl rfl rfl ?_ | refine B7 rfl rfl rfl rfl rfl ?_ | refine B8 rfl rfl rfl rfl rfl ?_ | refine B9 rfl rfl rfl rfl rfl rfl rfl ?_ | refine BA rfl rfl rfl rfl rfl rfl rfl ?_) | (refine IsConv ?_; refine C1 rfl rfl rfl rfl rfl ?_) | (refine IsLoad ?_; first | refine L1 rfl rfl rfl rfl ?_ | refine L2 rfl rfl rfl rfl rfl ?_) | (refine IsStore ?_; refine S1 rfl rfl rfl rfl rfl rfl rfl (fun _ => ?_)) | (refine IsBox ?_; refine N1 rfl rfl rfl rfl (fun _ => ?_)) | (refine IsAlloc ?_; refine N2 rfl rfl rfl rfl (fun _ => ?_)) | (refine IsBuild ?_; refine U1 rfl rfl rfl rfl rfl rfl ?_) | refine V1 rfl rfl rfl ?_) | (refine IsAt ?_; first | (with_reducible first | refine T1 ?_ | refine T2 ?_ | refine T3 ?_ | refine T4 ?_ | refine T5 ?_ | refine T6 ?_ | refine T7 ?_ | refine T8 ?_ | refine T9 ?_ | refine TA ?_ | refine TB ?_ | refine TC ?_) | ((with_reducible show At _ (PBlock _ _ (Exit.exit _)) _ _); first | refine At_block_hit ?_ | refine At_block_miss rfl ?_)) | (refine IsJ ?_; first | refine J_seq ?_ | refine J_region ?_ | refine J_block ?_ | refine J_skip ?_ | refine J_ret ?_ | refine J_exit ?_ | (refine IsCond ?_; first | refine J_cond_t rfl ?_ | refine J_cond_f rfl ?_ | refine K1 rfl ?_ | refine K2 rfl ?_ | refine K3 rfl ?_ | refine K4 rfl ?_ | refine J_cb rfl (fun _ => ?_) (fun _ => ?_) | refine J_nb rfl (fun _ => ?_) (fun _ => ?_))))
      refine JO_l (OL_buildSlice (cs := [.int .i64 Tq]) rfl rfl rfl rfl rfl rfl rfl rfl) rfl rfl ?_
      rintro _ _ ⟨bb, rfl, rfl⟩
      refine JO_l (OL_appendr (m := 1) rfl rfl rfl rfl rfl (by first | exact P0 | exact P1 | exact P2 | exact P3 | exact P4 | exact P5 | exact P6 | exact P7) ((Reads.blk rfl).src (.head _)) rfl rfl (fun _ h => by cases h) (by omega) (by omega) (by decide)) rfl rfl ?_
      rintro _ _ ⟨ta2, tc2, rfl, rfl⟩
      repeat' (first | (refine IsO ?_; first | refine JO_nil ?_ | (refine IsG ?_; first | refine G1 rfl rfl ?_ | refine G2 rfl ?_) | (refine IsMove ?_; first | refine M1 rfl rfl rfl ?_ | refine M2 rfl rfl rfl ?_ | refine M3 rfl rfl rfl ?_ | refine M4 rfl rfl rfl ?_ | refine M5 rfl rfl rfl (fun _ => ?_) (fun _ => ?_) | refine M6 rfl rfl rfl (fun _ => ?_) (fun _ => ?_)) | (refine IsBin ?_; first | refine B1 rfl rfl rfl rfl ?_ | refine B2 rfl rfl rfl rfl ?_ | refine B3 rfl rfl rfl rfl ?_ | refine B4 rfl rfl rfl rfl ?_ | refine B5 rfl rfl rfl rfl ?_ | refine B6 rfl rfl rfl rfl ?_ | refine B7 rfl rfl rfl rfl rfl ?_ | refine B8 rfl rfl rfl rfl rfl ?_ | refine B9 rfl rfl rfl rfl rfl rfl rfl ?_ | refine BA rfl rfl rfl rfl rfl rfl rfl ?_) | (refine IsConv ?_; refine C1 rfl rfl rfl rfl rfl ?_) | (refine IsLoad ?_; first | refine L1 rfl rfl rfl rfl ?_ | refine L2 rfl rfl rfl rfl rfl ?_) | (refine IsStore ?_; refine S1 rfl rfl rfl rfl rfl rfl rfl (fun _ => ?_)) | (refine IsBox ?_; refine N1 rfl rfl rfl rfl (fun _ => ?_)) | (refine IsAlloc ?_; refine N2 rfl rfl rfl rfl (fun _ => ?_)) | (refine IsBuild ?_; refine U1 rfl rfl rfl rfl rfl rfl ?_) | refine V1 rfl rfl rfl ?_) | (refine IsAt ?_; first | (with_reducible first | refine T1 ?_ | refine T2 ?_ | refine T3 ?_ | refine T4 ?_ | refine T5 ?_ | refine T6 ?_ | refine T7 ?_ | refine T8 ?_ | refine T9 ?_ | refine TA ?_ | refine TB ?_ | refine TC ?_) | ((with_reducible show At _ (PBlock _ _ (Exit.exit _)) _ _); first | refine At_block_hit ?_ | refine At_block_miss rfl ?_)) | (refine IsJ ?_; first | refine J_seq ?_ | refine J_region ?_ | refine J_block ?_ | refine J_skip ?_ | refine J_ret ?_ | refine J_exit ?_ | (refine IsCond ?_; first | refine J_cond_t rfl ?_ | refine J_cond_f rfl ?_ | refine K1 rfl ?_ | refine K2 rfl ?_ | refine K3 rfl ?_ | refine K4 rfl ?_ | refine J_cb rfl (fun _ => ?_) (fun _ => ?_) | refine J_nb rfl (fun _ => ?_) (fun _ => ?_))))
      refine At_round (i + 1, ws2, st2, a4, c4, os2, ta2, tc2) (by show ns.length - (i + 1) < ns.length - i; omega) ⟨by show i + 1 ≤ ns.length; omega, by dsimp only; rw [hlx1]; exact hB2⟩ (by repeat (first | exact True.intro | refine And.intro rfl ?_)) ?_
      intro H hl
      dsimp only
      rw [hlx1]
      have e : intsV (s.at_ ++ [(Tq : Int)]) = intsV s.at_ ++ [.int .i64 Tq] := List.map_append
      dsimp only
      rw [e]
      exact hl.pick (is := [0, 1, 2, 2, 2, 2, 2, 2, 2, 2]) rfl
  obtain rfl : i = ns.length := by omega
  obtain ⟨hLi, hLa, hLT, hLb⟩ := layG_i (ns := ns) (i := ns.length) (Nat.le_refl _)
  rw [List.take_length] at hLi hLa hLT hLb hB ⊢
  generalize layG ns = s at hLi hLa hLT hLb hB ⊢
  clear hB0
  have htn := hB.ht.tn
  have hLb2 : ∀ q ∈ s.at_, 0 ≤ q ∧ q ≤ 65536 := fun q hq => by have := hLb q hq; omega
  repeat' (first | (refine IsO ?_; first | refine JO_nil ?_ | (refine IsG ?_; first | refine G1 rfl rfl ?_ | refine G2 rfl ?_) | (refine IsMove ?_; first | refine M1 rfl rfl rfl ?_ | refine M2 rfl rfl rfl ?_ | refine M3 rfl rfl rfl ?_ | refine M4 rfl rfl rfl ?_ | refine M5 rfl rfl rfl (fun _ => ?_) (fun _ => ?_) | refine M6 rfl rfl rfl (fun _ => ?_) (fun _ => ?_)) | (refine IsBin ?_; first | refine B1 rfl rfl rfl rfl ?_ | refine B2 rfl rfl rfl rfl ?_ | refine B3 rfl rfl rfl rfl ?_ | refine B4 rfl rfl rfl rfl ?_ | refine B5 rfl rfl rfl rfl ?_ | refine B6 rfl rfl rfl rfl ?_ | refine B7 rfl rfl rfl rfl rfl ?_ | refine B8 rfl rfl rfl rfl rfl ?_ | refine B9 rfl rfl rfl rfl rfl rfl rfl ?_ | refine BA rfl rfl rfl rfl rfl rfl rfl ?_) | (refine IsConv ?_; refine C1 rfl rfl rfl rfl rfl ?_) | (refine IsLoad ?_; first | refine L1 rfl rfl rfl rfl ?_ | refine L2 rfl rfl rfl rfl rfl ?_) | (refine IsStore ?_; refine S1 rfl rfl rfl rfl rfl rfl rfl (fun _ => ?_)) | (refine IsBox ?_; refine N1 rfl rfl rfl rfl (fun _ => ?_)) | (refine IsAlloc ?_; refine N2 rfl rfl rfl rfl (fun _ => ?_)) | (refine IsBuild ?_; refine U1 rfl rfl rfl rfl rfl rfl ?_) | refine V1 rfl rfl rfl ?_) | (refine IsAt ?_; first | (with_reducible first | refine T1 ?_ | refine T2 ?_ | refine T3 ?_ | refine T4 ?_ | refine T5 ?_ | refine T6 ?_ | refine T7 ?_ | refine T8 ?_ | refine T9 ?_ | refine TA ?_ | refine TB ?_ | refine TC ?_) | ((with_reducible show At _ (PBlock _ _ (Exit.exit _)) _ _); first | refine At_block_hit ?_ | refine At_block_miss rfl ?_)) | (refine IsJ ?_; first | refine J_seq ?_ | refine J_region ?_ | refine J_block ?_ | refine J_skip ?_ | refine J_ret ?_ | refine J_exit ?_ | (refine IsCond ?_; first | refine J_cond_t rfl ?_ | refine J_cond_f rfl ?_ | refine K1 rfl ?_ | refine K2 rfl ?_ | refine K3 rfl ?_ | refine K4 rfl ?_ | refine J_cb rfl (fun _ => ?_) (fun _ => ?_) | refine J_nb rfl (fun _ => ?_) (fun _ => ?_))))
  refine J_loop (α := Nat × List Int × Option Addr × Nat × List RO) (fun x => x.1 ≤ ns.length ∧ BInv n s.T x.2.1 st x.2.2.2.2 s.hs)
    (fun x => [(2, ptr bg 0), (4, .pointer none), (5, .slice none 0 0), (6, ptr b6 0), (10, ptr p 0), (12, ptr b12 0), (13, .slice ta ns.length tc), (118, .slice na ns.length nc), (119, .int .i64 ns.length), (120, .int .i64 x.1)])
    (fun x => [rowz 3 1 ta ns.length tc (intsV s.at_), blk b12 [.int .i64 n, .slice x.2.2.1 x.2.2.2.2.length x.2.2.2.1] 33] ++ heapL p bw bs n x.2.1 s.T st ++ refL x.2.2.1 x.2.2.2.1 x.2.2.2.2 ++ [blk b6 [.int .i64 0, .slice none 0 0] 33, blk bg [.slice na ns.length nc, .slice ra0 rs.length rc0] 25, R])
    (fun x => ns.length - x.1) (0, ws, a, cap, os) ⟨Nat.zero_le _, hB⟩ (by repeat (first | exact True.intro | refine And.intro rfl ?_)) (fun H hl => hl) ?_
  clear hB
  rintro ⟨i, ws, a, cap, os⟩ ⟨hi, hB⟩
  dsimp only at hi hB ⊢
  repeat' (first | (refine IsO ?_; first | refine JO_nil ?_ | (refine IsG ?_; first | refine G1 rfl rfl ?_ | refine G2 rfl ?_) | (refine IsMove ?_; first | refine M1 rfl rfl rfl ?_ | refine M2 rfl rfl rfl ?_ | refine M3 rfl rfl rfl ?_ | refine M4 rfl rfl rfl ?_ | refine M5 rfl rfl rfl (fun _ => ?_) (fun _ => ?_) | refine M6 rfl rfl rfl (fun _ => ?_) (fun _ => ?_)) | (refine IsBin ?_; first | refine B1 rfl rfl rfl rfl ?_ | refine B2 rfl rfl rfl rfl ?_ | refine B3 rfl rfl rfl rfl ?_ | refine B4 rfl rfl rfl rfl ?_ | refine B5 rfl rfl rfl rfl ?_ | refine B6 rfl rfl rfl rfl ?_ | refine B7 rfl rfl rfl rfl rfl ?_ | refine B8 rfl rfl rfl rfl rfl ?_ | refine B9 rfl rfl rfl rfl rfl rfl rfl ?_ | refine BA rfl rfl rfl rfl rfl rfl rfl ?_) | (refine IsConv ?_; refine C1 rfl rfl rfl rfl rfl ?_) | (refine IsLoad ?_; first | refine L1 rfl rfl rfl rfl ?_ | refine L2 rfl rfl rfl rfl rfl ?_) | (refine IsStore ?_; refine S1 rfl rfl rfl rfl rfl rfl rfl (fun _ => ?_)) | (refine IsBox ?_; refine N1 rfl rfl rfl rfl (fun _ => ?_)) | (refine IsAlloc ?_; refine N2 rfl rfl rfl rfl (fun _ => ?_)) | (refine IsBuild ?_; refine U1 rfl rfl rfl rfl rfl rfl ?_) | refine V1 rfl rfl rfl ?_) | (refine IsAt ?_; first | (with_reducible first | refine T1 ?_ | refine T2 ?_ | refine T3 ?_ | refine T4 ?_ | refine T5 ?_ | refine T6 ?_ | refine T7 ?_ | refine T8 ?_ | refine T9 ?_ | refine TA ?_ | refine TB ?_ | refine TC ?_) | ((with_reducible show At _ (PBlock _ _ (Exit.exit _)) _ _); first | refine At_block_hit ?_ | refine At_block_miss rfl ?_)) | (refine IsJ ?_; first | refine J_seq ?_ | refine J_region ?_ | refine J_skip ?_ | refine J_ret ?_ | refine J_exit ?_ | (refine IsCond ?_; first | refine J_cond_t rfl ?_ | refine J_cond_f rfl ?_ | refine K1 rfl ?_ | refine K2 rfl ?_ | refine K3 rfl ?_ | refine K4 rfl ?_ | refine J_cb rfl (fun _ => ?_) (fun _ => ?_) | refine J_nb rfl (fun _ => ?_) (fun _ => ?_))))
  · rename_i hlt
    refine J_block ?_
    obtain ⟨y, hy⟩ : ∃ y, ns[i]? = some y := ⟨ns[i]'(by omega), List.getElem?_eq_getElem _⟩
    have hyo := hnd y (List.mem_of_getElem? hy)
    have hye := he10 y (List.mem_of_getElem? hy)
    have hnt := node_take hy
    clear hy
    obtain ⟨yk, es, ea, ec, ym⟩ := y
    obtain ⟨hk0, hk1, hm0, hm1, heb, hrd⟩ := hyo
    dsimp only at hk0 hk1 hm0 hm1 heb hrd hye hnt ⊢
    obtain ⟨q, hq⟩ : ∃ q, s.at_[i]? = some q := ⟨s.at_[i]'(by omega), List.getElem?_eq_getElem _⟩
    repeat' (first | (refine IsO ?_; first | refine JO_nil ?_ | (refine IsG ?_; first | refine G1 rfl rfl ?_ | refine G2 rfl ?_) | (refine IsMove ?_; first | refine M1 rfl rfl rfl ?_ | refine M2 rfl rfl rfl ?_ | refine M3 rfl rfl rfl ?_ | refine M4 rfl rfl rfl ?_ | refine M5 rfl rfl rfl (fun _ => ?_) (fun _ => ?_) | refine M6 rfl rfl rfl (fun _ => ?_) (fun _ => ?_)) | (refine IsBin ?_; first | refine B1 rfl rfl rfl rfl ?_ | refine B2 rfl rfl rfl rfl ?_ | refine B3 rfl rfl rfl rfl ?_ | refine B4 rfl rfl rfl rfl ?_ | refine B5 rfl rfl rfl rfl ?_ | refine B6 rfl rfl rfl rfl ?_ | refine B7 rfl rfl rfl rfl rfl ?_ | refine B8 rfl rfl rfl rfl rfl ?_ | refine B9 rfl rfl rfl rfl rfl rfl rfl ?_ | refine BA rfl rfl rfl rfl rfl rfl rfl ?_) | (refine IsConv ?_; refine C1 rfl rfl rfl rfl rfl ?_) | (refine IsLoad ?_; first | refine L1 rfl rfl rfl rfl ?_ | refine L2 rfl rfl rfl rfl rfl ?_) | (refine IsStore ?_; refine S1 rfl rfl rfl rfl rfl rfl rfl (fun _ => ?_)) | (refine IsBox ?_; refine N1 rfl rfl rfl rfl (fun _ => ?_)) | (refine IsAlloc ?_; refine N2 rfl rfl rfl rfl (fun _ => ?_)) | (refine IsBuild ?_; refine U1 rfl rfl rfl rfl rfl rfl ?_) | refine V1 rfl rfl rfl ?_) | (refine IsAt ?_; first | (with_reducible first | refine T1 ?_ | refine T2 ?_ | refine T3 ?_ | refine T4 ?_ | refine T5 ?_ | refine T6 ?_ | refine T7 ?_ | refine T8 ?_ | refine T9 ?_ | refine TA ?_ | refine TB ?_ | refine TC ?_) | ((with_reducible show At _ (PBlock _ _ (Exit.exit _)) _ _); first | refine At_block_hit ?_ | refine At_block_miss rfl ?_)) | (refine IsJ ?_; first | refine J_seq ?_ | refine J_region ?_ | refine J_block ?_ | refine J_skip ?_ | refine J_ret ?_ | refine J_exit ?_ | (refine IsCond ?_; first | refine J_cond_t rfl ?_ | refine J_cond_f rfl ?_ | refine K1 rfl ?_ | refine K2 rfl ?_ | refine K3 rfl ?_ | refine K4 rfl ?_ | refine J_cb rfl (fun _ => ?_) (fun _ => ?_) | refine J_nb rfl (fun _ => ?_) (fun _ => ?_))))
    refine JO_fact _ (fun w hs => hrn.some (by omega) hs (by repeat (first | exact .head _ | refine .tail _ ?_))) ?_
    rintro ⟨b, o, rfl⟩
    refine JO_val (OV_idx (off := o + i * 3) rfl rfl rfl rfl (by omega) (by omega) (by simp)) rfl rfl ?_
    refine JO_q (OQ_readA hrn (by repeat (first | exact .head _ | refine .tail _ ?_)) rfl rfl rfl (by omega) hnt) rfl rfl ?_
    repeat' (first | (refine IsO ?_; first | refine JO_nil ?_ | (refine IsG ?_; first | refine G1 rfl rfl ?_ | refine G2 rfl ?_) | (refine IsMove ?_; first | refine M1 rfl rfl rfl ?_ | refine M2 rfl rfl rfl ?_ | refine M3 rfl rfl rfl ?_ | refine M4 rfl rfl rfl ?_ | refine M5 rfl rfl rfl (fun _ => ?_) (fun _ => ?_) | refine M6 rfl rfl rfl (fun _ => ?_) (fun _ => ?_)) | (refine IsBin ?_; first | refine B1 rfl rfl rfl rfl ?_ | refine B2 rfl rfl rfl rfl ?_ | refine B3 rfl rfl rfl rfl ?_ | refine B4 rfl rfl rfl rfl ?_ | refine B5 rfl rfl rfl rfl ?_ | refine B6 rfl rfl rfl rfl ?_ | refine B7 rfl rfl rfl rfl rfl ?_ | refine B8 rfl rfl rfl rfl rfl ?_ | refine B9 rfl rfl rfl rfl rfl rfl rfl ?_ | refine BA rfl rfl rfl rfl rfl rfl rfl ?_) | (refine IsConv ?_; refine C1 rfl rfl rfl rfl rfl ?_) | (refine IsLoad ?_; first | refine L1 rfl rfl rfl rfl ?_ | refine L2 rfl rfl rfl rfl rfl ?_) | (refine IsStore ?_; refine S1 rfl rfl rfl rfl rfl rfl rfl (fun _ => ?_)) | (refine IsBox ?_; refine N1 rfl rfl rfl rfl (fun _ => ?_)) | (refine IsAlloc ?_; refine N2 rfl rfl rfl rfl (fun _ => ?_)) | (refine IsBuild ?_; refine U1 rfl rfl rfl rfl rfl rfl ?_) | refine V1 rfl rfl rfl ?_) | (refine IsAt ?_; first | (with_reducible first | refine T1 ?_ | refine T2 ?_ | refine T3 ?_ | refine T4 ?_ | refine T5 ?_ | refine T6 ?_ | refine T7 ?_ | refine T8 ?_ | refine T9 ?_ | refine TA ?_ | refine TB ?_ | refine TC ?_) | ((with_reducible show At _ (PBlock _ _ (Exit.exit _)) _ _); first | refine At_block_hit ?_ | refine At_block_miss rfl ?_)) | (refine IsJ ?_; first | refine J_seq ?_ | refine J_region ?_ | refine J_block ?_ | refine J_skip ?_ | refine J_ret ?_ | refine J_exit ?_ | (refine IsCond ?_; first | refine J_cond_t rfl ?_ | refine J_cond_f rfl ?_ | refine K1 rfl ?_ | refine K2 rfl ?_ | refine K3 rfl ?_ | refine K4 rfl ?_ | refine J_cb rfl (fun _ => ?_) (fun _ => ?_) | refine J_nb rfl (fun _ => ?_) (fun _ => ?_))))
    rename_i b21 _
    refine J_loop (α := Nat × List Int × Option Addr × Nat × List RO) (fun x => x.1 ≤ es.length ∧ BInv n s.T x.2.1 st x.2.2.2.2 s.hs)
      (fun x => [(2, ptr bg 0), (4, .pointer none), (5, .slice none 0 0), (6, ptr b6 0), (10, ptr p 0), (12, ptr b12 0), (13, .slice ta ns.length tc), (20, .int .i64 i), (21, ptr b21 0), (118, .slice (some ⟨b, o, none⟩) ns.length nc), (119, .int .i64 ns.length), (120, .int .i64 i), (126, .slice ea es.length ec), (127, .int .i64 es.length), (128, .int .i64 x.1)])
      (fun x => [blk b21 [.int .u8 yk, .slice ea es.length ec, .int .u8 ym] 78, rowz 3 1 ta ns.length tc (intsV s.at_), blk b12 [.int .i64 n, .slice x.2.2.1 x.2.2.2.2.length x.2.2.2.1] 33] ++ heapL p bw bs n x.2.1 s.T st ++ refL x.2.2.1 x.2.2.2.1 x.2.2.2.2 ++ [blk b6 [.int .i64 0, .slice none 0 0] 33, blk bg [.slice (some ⟨b, o, none⟩) ns.length nc, .slice ra0 rs.length rc0] 25, R])
      (fun x => es.length - x.1) (0, ws, a, cap, os) ⟨Nat.zero_le _, hB⟩ (by repeat (first | exact True.intro | refine And.intro rfl ?_)) (fun H hl => hl) ?_
    clear hB
    rintro ⟨k, ws, a, cap, os⟩ ⟨hk, hB⟩
    dsimp only at hk hB ⊢
    repeat' (first | (refine IsO ?_; first | refine JO_nil ?_ | (refine IsG ?_; first | refine G1 rfl rfl ?_ | refine G2 rfl ?_) | (refine IsMove ?_; first | refine M1 rfl rfl rfl ?_ | refine M2 rfl rfl rfl ?_ | refine M3 rfl rfl rfl ?_ | refine M4 rfl rfl rfl ?_ | refine M5 rfl rfl rfl (fun _ => ?_) (fun _ => ?_) | refine M6 rfl rfl rfl (fun _ => ?_) (fun _ => ?_)) | (refine IsBin ?_; first | refine B1 rfl rfl rfl rfl ?_ | refine B2 rfl rfl rfl rfl ?_ | refine B3 rfl rfl rfl rfl ?_ | refine B4 rfl rfl rfl rfl ?_ | refine B5 rfl rfl rfl rfl ?_ | refine B6 rfl rfl rfl rfl ?_ | refine B7 rfl rfl rfl rfl rfl ?_ | refine B8 rfl rfl rfl rfl rfl ?_ | refine B9 rfl rfl rfl rfl rfl rfl rfl ?_ | refine BA rfl rfl rfl rfl rfl rfl rfl ?_) | (refine IsConv ?_; refine C1 rfl rfl rfl rfl rfl ?_) | (refine IsLoad ?_; first | refine L1 rfl rfl rfl rfl ?_ | refine L2 rfl rfl rfl rfl rfl ?_) | (refine IsStore ?_; refine S1 rfl rfl rfl rfl rfl rfl rfl (fun _ => ?_)) | (refine IsBox ?_; refine N1 rfl rfl rfl rfl (fun _ => ?_)) | (refine IsAlloc ?_; refine N2 rfl rfl rfl rfl (fun _ => ?_)) | (refine IsBuild ?_; refine U1 rfl rfl rfl rfl rfl rfl ?_) | refine V1 rfl rfl rfl ?_) | (refine IsAt ?_; first | (with_reducible first | refine T1 ?_ | refine T2 ?_ | refine T3 ?_ | refine T4 ?_ | refine T5 ?_ | refine T6 ?_ | refine T7 ?_ | refine T8 ?_ | refine T9 ?_ | refine TA ?_ | refine TB ?_ | refine TC ?_) | ((with_reducible show At _ (PBlock _ _ (Exit.exit _)) _ _); first | refine At_block_hit ?_ | refine At_block_miss rfl ?_)) | (refine IsJ ?_; first | refine J_seq ?_ | refine J_region ?_ | refine J_skip ?_ | refine J_ret ?_ | refine J_exit ?_ | (refine IsCond ?_; first | refine J_cond_t rfl ?_ | refine J_cond_f rfl ?_ | refine K1 rfl ?_ | refine K2 rfl ?_ | refine K3 rfl ?_ | refine K4 rfl ?_ | refine J_cb rfl (fun _ => ?_) (fun _ => ?_) | refine J_nb rfl (fun _ => ?_) (fun _ => ?_))))
    · rename_i hklt
      refine J_block ?_
      obtain ⟨e, he⟩ : ∃ e, es[k]? = some e := ⟨es[k]'(by omega), List.getElem?_eq_getElem _⟩
      obtain ⟨he0, he1⟩ := heb e (List.mem_of_getElem? he)
      repeat' (first | (refine IsO ?_; first | refine JO_nil ?_ | (refine IsG ?_; first | refine G1 rfl rfl ?_ | refine G2 rfl ?_) | (refine IsMove ?_; first | refine M1 rfl rfl rfl ?_ | refine M2 rfl rfl rfl ?_ | refine M3 rfl rfl rfl ?_ | refine M4 rfl rfl rfl ?_ | refine M5 rfl rfl rfl (fun _ => ?_) (fun _ => ?_) | refine M6 rfl rfl rfl (fun _ => ?_) (fun _ => ?_)) | (refine IsBin ?_; first | refine B1 rfl rfl rfl rfl ?_ | refine B2 rfl rfl rfl rfl ?_ | refine B3 rfl rfl rfl rfl ?_ | refine B4 rfl rfl rfl rfl ?_ | refine B5 rfl rfl rfl rfl ?_ | refine B6 rfl rfl rfl rfl ?_ | refine B7 rfl rfl rfl rfl rfl ?_ | refine B8 rfl rfl rfl rfl rfl ?_ | refine B9 rfl rfl rfl rfl rfl rfl rfl ?_ | refine BA rfl rfl rfl rfl rfl rfl rfl ?_) | (refine IsConv ?_; refine C1 rfl rfl rfl rfl rfl ?_) | (refine IsLoad ?_; first | refine L1 rfl rfl rfl rfl ?_ | refine L2 rfl rfl rfl rfl rfl ?_) | (refine IsStore ?_; refine S1 rfl rfl rfl rfl rfl rfl rfl (fun _ => ?_)) | (refine IsBox ?_; refine N1 rfl rfl rfl rfl (fun _ => ?_)) | (refine IsAlloc ?_; refine N2 rfl rfl rfl rfl (fun _ => ?_)) | (refine IsBuild ?_; refine U1 rfl rfl rfl rfl rfl rfl ?_) | refine V1 rfl rfl rfl ?_) | (refine IsAt ?_; first | (with_reducible first | refine T1 ?_ | refine T2 ?_ | refine T3 ?_ | refine T4 ?_ | refine T5 ?_ | refine T6 ?_ | refine T7 ?_ | refine T8 ?_ | refine T9 ?_ | refine TA ?_ | refine TB ?_ | refine TC ?_) | ((with_reducible show At _ (PBlock _ _ (Exit.exit _)) _ _); first | refine At_block_hit ?_ | refine At_block_miss rfl ?_)) | (refine IsJ ?_; first | refine J_seq ?_ | refine J_region ?_ | refine J_block ?_ | refine J_skip ?_ | refine J_ret ?_ | refine J_exit ?_ | (refine IsCond ?_; first | refine J_cond_t rfl ?_ | refine J_cond_f rfl ?_ | refine K1 rfl ?_ | refine K2 rfl ?_ | refine K3 rfl ?_ | refine K4 rfl ?_ | refine J_cb rfl (fun _ => ?_) (fun _ => ?_) | refine J_nb rfl (fun _ => ?_) (fun _ => ?_))))
      refine JO_fact _ (fun w hs => hrd.some (by omega) hs (by repeat (first | exact .head _ | refine .tail _ ?_))) ?_
      rintro ⟨b1, o1, rfl⟩
      refine JO_val (OV_idx (off := o1 + k) rfl rfl rfl rfl (by omega) (by omega) (by simp)) rfl rfl ?_
      refine JO_q (OQ_read (v := .int .u8 e) hrd (by repeat (first | exact .head _ | refine .tail _ ?_)) rfl rfl (by omega) (by simp [u8V, he])) rfl rfl ?_
      repeat' (first | (refine IsO ?_; first | refine JO_nil ?_ | (refine IsG ?_; first | refine G1 rfl rfl ?_ | refine G2 rfl ?_) | (refine IsMove ?_; first | refine M1 rfl rfl rfl ?_ | refine M2 rfl rfl rfl ?_ | refine M3 rfl rfl rfl ?_ | refine M4 rfl rfl rfl ?_ | refine M5 rfl rfl rfl (fun _ => ?_) (fun _ => ?_) | refine M6 rfl rfl rfl (fun _ => ?_) (fun _ => ?_)) | (refine IsBin ?_; first | refine B1 rfl rfl rfl rfl ?_ | refine B2 rfl rfl rfl rfl ?_ | refine B3 rfl rfl rfl rfl ?_ | refine B4 rfl rfl rfl rfl ?_ | refine B5 rfl rfl rfl rfl ?_ | refine B6 rfl rfl rfl rfl ?_ | refine B7 rfl rfl rfl rfl rfl ?_ | refine B8 rfl rfl rfl rfl rfl ?_ | refine B9 rfl rfl rfl rfl rfl rfl rfl ?_ | refine BA rfl rfl rfl rfl rfl rfl rfl ?_) | (refine IsConv ?_; refine C1 rfl rfl rfl rfl rfl ?_) | (refine IsLoad ?_; first | refine L1 rfl rfl rfl rfl ?_ | refine L2 rfl rfl rfl rfl rfl ?_) | (refine IsStore ?_; refine S1 rfl rfl rfl rfl rfl rfl rfl (fun _ => ?_)) | (refine IsBox ?_; refine N1 rfl rfl rfl rfl (fun _ => ?_)) | (refine IsAlloc ?_; refine N2 rfl rfl rfl rfl (fun _ => ?_)) | (refine IsBuild ?_; refine U1 rfl rfl rfl rfl rfl rfl ?_) | refine V1 rfl rfl rfl ?_) | (refine IsAt ?_; first | (with_reducible first | refine T1 ?_ | refine T2 ?_ | refine T3 ?_ | refine T4 ?_ | refine T5 ?_ | refine T6 ?_ | refine T7 ?_ | refine T8 ?_ | refine T9 ?_ | refine TA ?_ | refine TB ?_ | refine TC ?_) | ((with_reducible show At _ (PBlock _ _ (Exit.exit _)) _ _); first | refine At_block_hit ?_ | refine At_block_miss rfl ?_)) | (refine IsJ ?_; first | refine J_seq ?_ | refine J_region ?_ | refine J_block ?_ | refine J_skip ?_ | refine J_ret ?_ | refine J_exit ?_ | (refine IsCond ?_; first | refine J_cond_t rfl ?_ | refine J_cond_f rfl ?_ | refine K1 rfl ?_ | refine K2 rfl ?_ | refine K3 rfl ?_ | refine K4 rfl ?_ | refine J_cb rfl (fun _ => ?_) (fun _ => ?_) | refine J_nb rfl (fun _ => ?_) (fun _ => ?_))))
      refine J_rowzf P1 ?_
      rintro ⟨hl, hnn, hcc⟩
      have hR : Reads (rowz 3 1 ta ns.length tc (intsV s.at_)) 1 ns.length ta tc (intsV s.at_) := Reads.rowz hl hnn
      refine J_fact _ (fun w hs => hR.some (by omega) hs (by repeat (first | exact .head _ | refine .tail _ ?_))) ?_
      rintro ⟨bt, ot, rfl⟩
      have hpl : Does Try.prog 34 [.slice (some ⟨bt, ot, none⟩) ns.length tc, .int .u8 e] [rowz 3 1 (some ⟨bt, ot, none⟩) ns.length tc (intsV s.at_)] (fun v l => v = .int .i64 (plcI s.at_ e) ∧ l = [rowz 3 1 (some ⟨bt, ot, none⟩) ns.length tc (intsV s.at_)]) := by
        rw [← hLa] at hR ⊢
        exact place11_spec e he0 he1 (by omega) hLb2 hR
      obtain ⟨hw0, hw1⟩ := plcI_in (z := e) hLb2
      generalize plcI s.at_ e = word at hw0 hw1 hpl
      have h64 : In64 word := ⟨by omega, by omega⟩
      have hqv : (intsV s.at_)[i]? = some (.int .i64 q) := by simp [intsV, hq]
      refine J_plan [rowz 3 1 (some ⟨bt, ot, none⟩) ns.length tc (intsV s.at_)] (fun H hl => hl.pick (is := [1]) rfl) [0, 0, 0, 0, 5, 0, 0, 0, 2, 6]
        (.q 0 (.q 1 (.q 2 (.q 3 (.q 4 (.q 5 (.q 6 (.q 7 (.l1 8 (.l1 9 .fin)))))))))) (by kernel_rfl) (by kernel_rfl) ?_
      repeat' (refine IsF ?_; first | (refine JF_fin ?_; refine At_np ?_) | (refine JF_op rfl ?_; refine FsO ?_; first | (refine FsBin ?_; first | refine FB1 rfl rfl rfl rfl ?_ | refine FB2 rfl rfl rfl rfl ?_ | refine FB3 rfl rfl rfl rfl ?_ | refine FB4 rfl rfl rfl rfl ?_ | refine FB5 rfl rfl rfl rfl ?_ | refine FB6 rfl rfl rfl rfl ?_ | refine FB7 rfl rfl rfl rfl rfl ?_ | refine FB8 rfl rfl rfl rfl rfl ?_ | refine FB9 rfl rfl rfl rfl rfl rfl rfl ?_ | refine FBA rfl rfl rfl rfl rfl rfl rfl ?_) | (refine FsLoad ?_; first | refine FL1k rfl rfl rfl rfl rfl ?_ | refine FL2k rfl rfl rfl rfl rfl rfl ?_) | (refine FsBuild ?_; refine FU1 rfl rfl rfl rfl rfl rfl ?_) | refine FV1 rfl rfl rfl ?_))
      refine JF_val rfl (OV_idx (off := ot + i) rfl rfl rfl rfl (by omega) (by omega) (by simp)) rfl rfl ?_
      refine JF_kept rfl rfl (OK_read (i := i) (v := .int .i64 q) hR (by repeat (first | exact .head _ | refine .tail _ ?_)) rfl rfl (by omega) hqv) rfl rfl ?_
      repeat' (refine IsF ?_; first | (refine JF_fin ?_; refine At_np ?_) | (refine JF_op rfl ?_; refine FsO ?_; first | (refine FsBin ?_; first | refine FB1 rfl rfl rfl rfl ?_ | refine FB2 rfl rfl rfl rfl ?_ | refine FB3 rfl rfl rfl rfl ?_ | refine FB4 rfl rfl rfl rfl ?_ | refine FB5 rfl rfl rfl rfl ?_ | refine FB6 rfl rfl rfl rfl ?_ | refine FB7 rfl rfl rfl rfl rfl ?_ | refine FB8 rfl rfl rfl rfl rfl ?_ | refine FB9 rfl rfl rfl rfl rfl rfl rfl ?_ | refine FBA rfl rfl rfl rfl rfl rfl rfl ?_) | (refine FsLoad ?_; first | refine FL1k rfl rfl rfl rfl rfl ?_ | refine FL2k rfl rfl rfl rfl rfl rfl ?_) | (refine FsBuild ?_; refine FU1 rfl rfl rfl rfl rfl rfl ?_) | refine FV1 rfl rfl rfl ?_))
      refine JF_l1 (JFO_l rfl (OL_call [1] rfl rfl rfl hpl rfl) rfl rfl (.inr ?_) ?_)
      · rintro _ _ ⟨_, ⟨rfl, rfl⟩, rfl⟩ H hl
        exact hl.pick (is := [0]) rfl
      rintro _ _ ⟨_, ⟨rfl, rfl⟩, rfl⟩ _
      refine JF_l1 (JFO_l rfl (OL_call [3, 3, 3] rfl rfl rfl (Write_specT q k word hB.ht h64) rfl) rfl rfl (.inl rfl) ?_)
      rintro _ _ ⟨_, ⟨rfl, rfl⟩, rfl⟩ _
      repeat' (refine IsF ?_; first | (refine JF_fin ?_; refine At_np ?_) | (refine JF_op rfl ?_; refine FsO ?_; first | (refine FsBin ?_; first | refine FB1 rfl rfl rfl rfl ?_ | refine FB2 rfl rfl rfl rfl ?_ | refine FB3 rfl rfl rfl rfl ?_ | refine FB4 rfl rfl rfl rfl ?_ | refine FB5 rfl rfl rfl rfl ?_ | refine FB6 rfl rfl rfl rfl ?_ | refine FB7 rfl rfl rfl rfl rfl ?_ | refine FB8 rfl rfl rfl rfl rfl ?_ | refine FB9 rfl rfl rfl rfl rfl rfl rfl ?_ | refine FBA rfl rfl rfl rfl rfl rfl rfl ?_) | (refine FsLoad ?_; first | refine FL1k rfl rfl rfl rfl rfl ?_ | refine FL2k rfl rfl rfl rfl rfl rfl ?_) | (refine FsBuild ?_; refine FU1 rfl rfl rfl rfl rfl rfl ?_) | refine FV1 rfl rfl rfl ?_))
      repeat' (first | (refine IsO ?_; first | refine JO_nil ?_ | (refine IsG ?_; first | refine G1 rfl rfl ?_ | refine G2 rfl ?_) | (refine IsMove ?_; first | refine M1 rfl rfl rfl ?_ | refine M2 rfl rfl rfl ?_ | refine M3 rfl rfl rfl ?_ | refine M4 rfl rfl rfl ?_ | refine M5 rfl rfl rfl (fun _ => ?_) (fun _ => ?_) | refine M6 rfl rfl rfl (fun _ => ?_) (fun _ => ?_)) | (refine IsBin ?_; first | refine B1 rfl rfl rfl rfl ?_ | refine B2 rfl rfl rfl rfl ?_ | refine B3 rfl rfl rfl rfl ?_ | refine B4 rfl rfl rfl rfl ?_ | refine B5 rfl rfl rfl rfl ?_ | refine B6 rfl rfl rfl rfl ?_ | refine B7 rfl rfl rfl rfl rfl ?_ | refine B8 rfl rfl rfl rfl rfl ?_ | refine B9 rfl rfl rfl rfl rfl rfl rfl ?_ | refine BA rfl rfl rfl rfl rfl rfl rfl ?_) | (refine IsConv ?_; refine C1 rfl rfl rfl rfl rfl ?_) | (refine IsLoad ?_; first | refine L1 rfl rfl rfl rfl ?_ | refine L2 rfl rfl rfl rfl rfl ?_) | (refine IsStore ?_; refine S1 rfl rfl rfl rfl rfl rfl rfl (fun _ => ?_)) | (refine IsBox ?_; refine N1 rfl rfl rfl rfl (fun _ => ?_)) | (refine IsAlloc ?_; refine N2 rfl rfl rfl rfl (fun _ => ?_)) | (refine IsBuild ?_; refine U1 rfl rfl rfl rfl rfl rfl ?_) | refine V1 rfl rfl rfl ?_) | (refine IsAt ?_; first | (with_reducible first | refine T1 ?_ | refine T2 ?_ | refine T3 ?_ | refine T4 ?_ | refine T5 ?_ | refine T6 ?_ | refine T7 ?_ | refine T8 ?_ | refine T9 ?_ | refine TA ?_ | refine TB ?_ | refine TC ?_) | ((with_reducible show At _ (PBlock _ _ (Exit.exit _)) _ _); first | refine At_block_hit ?_ | refine At_block_miss rfl ?_)) | (refine IsJ ?_; first | refine J_seq ?_ | refine J_region ?_ | refine J_block ?_ | refine J_skip ?_ | refine J_ret ?_ | refine J_exit ?_ | (refine IsCond ?_; first | refine J_cond_t rfl ?_ | refine J_cond_f rfl ?_ | refine K1 rfl ?_ | refine K2 rfl ?_ | refine K3 rfl ?_ | refine K4 rfl ?_ | refine J_cb rfl (fun _ => ?_) (fun _ => ?_) | refine J_nb rfl (fun _ => ?_) (fun _ => ?_))))
      refine J_plan [blk b12 [.int .i64 n, .slice a os.length cap] 33, rowz 3 1 (some ⟨bt, ot, none⟩) ns.length tc (intsV s.at_)] (fun H hl => hl.pick (is := [5, 3]) rfl) [5, 0, 0, 0, 5, 0, 0, 0, 2, 2, 0, 0, 0, 6]
        (.q 0 (.q 1 (.q 2 (.q 3 (.q 4 (.q 5 (.q 6 (.q 7 (.l1 8 (.l1 9 (.q 10 (.q 11 (.q 12 (.l1 13 .fin)))))))))))))) (by kernel_rfl) (by kernel_rfl) ?_
      repeat' (refine IsF ?_; first | (refine JF_fin ?_; refine At_np ?_) | (refine JF_op rfl ?_; refine FsO ?_; first | (refine FsBin ?_; first | refine FB1 rfl rfl rfl rfl ?_ | refine FB2 rfl rfl rfl rfl ?_ | refine FB3 rfl rfl rfl rfl ?_ | refine FB4 rfl rfl rfl rfl ?_ | refine FB5 rfl rfl rfl rfl ?_ | refine FB6 rfl rfl rfl rfl ?_ | refine FB7 rfl rfl rfl rfl rfl ?_ | refine FB8 rfl rfl rfl rfl rfl ?_ | refine FB9 rfl rfl rfl rfl rfl rfl rfl ?_ | refine FBA rfl rfl rfl rfl rfl rfl rfl ?_) | (refine FsLoad ?_; first | refine FL1k rfl rfl rfl rfl rfl ?_ | refine FL2k rfl rfl rfl rfl rfl rfl ?_) | (refine FsBuild ?_; refine FU1 rfl rfl rfl rfl rfl rfl ?_) | refine FV1 rfl rfl rfl ?_))
      refine JF_val rfl (OV_idx (off := ot + i) rfl rfl rfl rfl (by omega) (by omega) (by simp)) rfl rfl ?_
      refine JF_kept rfl rfl (OK_read (i := i) (v := .int .i64 q) hR (by repeat (first | exact .head _ | refine .tail _ ?_)) rfl rfl (by omega) hqv) rfl rfl ?_
      repeat' (refine IsF ?_; first | (refine JF_fin ?_; refine At_np ?_) | (refine JF_op rfl ?_; refine FsO ?_; first | (refine FsBin ?_; first | refine FB1 rfl rfl rfl rfl ?_ | refine FB2 rfl rfl rfl rfl ?_ | refine FB3 rfl rfl rfl rfl ?_ | refine FB4 rfl rfl rfl rfl ?_ | refine FB5 rfl rfl rfl rfl ?_ | refine FB6 rfl rfl rfl rfl ?_ | refine FB7 rfl rfl rfl rfl rfl ?_ | refine FB8 rfl rfl rfl rfl rfl ?_ | refine FB9 rfl rfl rfl rfl rfl rfl rfl ?_ | refine FBA rfl rfl rfl rfl rfl rfl rfl ?_) | (refine FsLoad ?_; first | refine FL1k rfl rfl rfl rfl rfl ?_ | refine FL2k rfl rfl rfl rfl rfl rfl ?_) | (refine FsBuild ?_; refine FU1 rfl rfl rfl rfl rfl rfl ?_) | refine FV1 rfl rfl rfl ?_))
      refine JF_l1 (JFO_l rfl (OL_call [3] rfl rfl rfl hpl rfl) rfl rfl (.inr ?_) ?_)
      · rintro _ _ ⟨_, ⟨rfl, rfl⟩, rfl⟩ H hl
        exact hl.pick (is := [5, 0]) rfl
      rintro _ _ ⟨_, ⟨rfl, rfl⟩, rfl⟩ _
      refine JF_l1 (JFO_l rfl (OL_call [6, 6] rfl rfl rfl (refWrite_spec n q k word hB.ht hB.ch h64) rfl) rfl rfl (.inr ?_) ?_)
      · rintro _ _ ⟨_, ⟨a4, c4, os4, hc4, rfl, rfl⟩, rfl⟩ H hl
        exact hl.pick (is := [7, 2]) rfl
      rintro _ _ ⟨_, ⟨a4, c4, os4, hc4, rfl, rfl⟩, rfl⟩ _
      have hB2 := hB.write h64 hc4
      generalize writeW ws st q k word = ws2 at hB2
      repeat' (refine IsF ?_; first | (refine JF_fin ?_; refine At_np ?_) | (refine JF_op rfl ?_; refine FsO ?_; first | (refine FsBin ?_; first | refine FB1 rfl rfl rfl rfl ?_ | refine FB2 rfl rfl rfl rfl ?_ | refine FB3 rfl rfl rfl rfl ?_ | refine FB4 rfl rfl rfl rfl ?_ | refine FB5 rfl rfl rfl rfl ?_ | refine FB6 rfl rfl rfl rfl ?_ | refine FB7 rfl rfl rfl rfl rfl ?_ | refine FB8 rfl rfl rfl rfl rfl ?_ | refine FB9 rfl rfl rfl rfl rfl rfl rfl ?_ | refine FBA rfl rfl rfl rfl rfl rfl rfl ?_) | (refine FsLoad ?_; first | refine FL1k rfl rfl rfl rfl rfl ?_ | refine FL2k rfl rfl rfl rfl rfl rfl ?_) | (refine FsBuild ?_; refine FU1 rfl rfl rfl rfl rfl rfl ?_) | refine FV1 rfl rfl rfl ?_))
      refine JF_l1 (JFO_l0 rfl (OL_store rfl rfl rfl rfl rfl rfl (by first | exact P0 | exact P1 | exact P2 | exact P3 | exact P4 | exact P5 | exact P6 | exact P7) (by rfl)) rfl (.inl rfl) ?_)
      rintro _ _ rfl _
      repeat' (refine IsF ?_; first | (refine JF_fin ?_; refine At_np ?_) | (refine JF_op rfl ?_; refine FsO ?_; first | (refine FsBin ?_; first | refine FB1 rfl rfl rfl rfl ?_ | refine FB2 rfl rfl rfl rfl ?_ | refine FB3 rfl rfl rfl rfl ?_ | refine FB4 rfl rfl rfl rfl ?_ | refine FB5 rfl rfl rfl rfl ?_ | refine FB6 rfl rfl rfl rfl ?_ | refine FB7 rfl rfl rfl rfl rfl ?_ | refine FB8 rfl rfl rfl rfl rfl ?_ | refine FB9 rfl rfl rfl rfl rfl rfl rfl ?_ | refine FBA rfl rfl rfl rfl rfl rfl rfl ?_) | (refine FsLoad ?_; first | refine FL1k rfl rfl rfl rfl rfl ?_ | refine FL2k rfl rfl rfl rfl rfl rfl ?_) | (refine FsBuild ?_; refine FU1 rfl rfl rfl rfl rfl rfl ?_) | refine FV1 rfl rfl rfl ?_))
      repeat' (first | (refine IsO ?_; first | refine JO_nil ?_ | (refine IsG ?_; first | refine G1 rfl rfl ?_ | refine G2 rfl ?_) | (refine IsMove ?_; first | refine M1 rfl rfl rfl ?_ | refine M2 rfl rfl rfl ?_ | refine M3 rfl rfl rfl ?_ | refine M4 rfl rfl rfl ?_ | refine M5 rfl rfl rfl (fun _ => ?_) (fun _ => ?_) | refine M6 rfl rfl rfl (fun _ => ?_) (fun _ => ?_)) | (refine IsBin ?_; first | refine B1 rfl rfl rfl rfl ?_ | refine B2 rfl rfl rfl rfl ?_ | refine B3 rfl rfl rfl rfl ?_ | refine B4 rfl rfl rfl rfl ?_ | refine B5 rfl rfl rfl rfl ?_ | refine B6 rfl rfl rfl rfl ?_ | refine B7 rfl rfl rfl rfl rfl ?_ | refine B8 rfl rfl rfl rfl rfl ?_ | refine B9 rfl rfl rfl rfl rfl rfl rfl ?_ | refine BA rfl rfl rfl rfl rfl rfl rfl ?_) | (refine IsConv ?_; refine C1 rfl rfl rfl rfl rfl ?_) | (refine IsLoad ?_; first | refine L1 rfl rfl rfl rfl ?_ | refine L2 rfl rfl rfl rfl rfl ?_) | (refine IsStore ?_; refine S1 rfl rfl rfl rfl rfl rfl rfl (fun _ => ?_)) | (refine IsBox ?_; refine N1 rfl rfl rfl rfl (fun _ => ?_)) | (refine IsAlloc ?_; refine N2 rfl rfl rfl rfl (fun _ => ?_)) | (refine IsBuild ?_; refine U1 rfl rfl rfl rfl rfl rfl ?_) | refine V1 rfl rfl rfl ?_) | (refine IsAt ?_; first | (with_reducible first | refine T1 ?_ | refine T2 ?_ | refine T3 ?_ | refine T4 ?_ | refine T5 ?_ | refine T6 ?_ | refine T7 ?_ | refine T8 ?_ | refine T9 ?_ | refine TA ?_ | refine TB ?_ | refine TC ?_) | ((with_reducible show At _ (PBlock _ _ (Exit.exit _)) _ _); first | refine At_block_hit ?_ | refine At_block_miss rfl ?_)) | (refine IsJ ?_; first | refine J_seq ?_ | refine J_region ?_ | refine J_block ?_ | refine J_skip ?_ | refine J_ret ?_ | refine J_exit ?_ | (refine IsCond ?_; first | refine J_cond_t rfl ?_ | refine J_cond_f rfl ?_ | refine K1 rfl ?_ | refine K2 rfl ?_ | refine K3 rfl ?_ | refine K4 rfl ?_ | refine J_cb rfl (fun _ => ?_) (fun _ => ?_) | refine J_nb rfl (fun _ => ?_) (fun _ => ?_))))
      exact At_round (k + 1, ws2, a4, c4, os4) (by show es.length - (k + 1) < es.length - k; omega) ⟨by show k + 1 ≤ es.length; omega, hB2⟩ (by repeat (first | exact True.intro | refine And.intro rfl ?_)) (fun H hl => hl.pick (is := [7, 3, 0, 2, 2, 2, 0, 0, 0, 0, 0]) rfl)
    obtain rfl : k = es.length := by omega
    obtain ⟨m3, hm3⟩ := Int.eq_ofNat_of_zero_le (show 0 ≤ ym % 4 by omega)
    rw [hm3]
    have hm34 : m3 < 4 := by omega
    repeat' (first | (refine IsO ?_; first | refine JO_nil ?_ | (refine IsG ?_; first | refine G1 rfl rfl ?_ | refine G2 rfl ?_) | (refine IsMove ?_; first | refine M1 rfl rfl rfl ?_ | refine M2 rfl rfl rfl ?_ | refine M3 rfl rfl rfl ?_ | refine M4 rfl rfl rfl ?_ | refine M5 rfl rfl rfl (fun _ => ?_) (fun _ => ?_) | refine M6 rfl rfl rfl (fun _ => ?_) (fun _ => ?_)) | (refine IsBin ?_; first | refine B1 rfl rfl rfl rfl ?_ | refine B2 rfl rfl rfl rfl ?_ | refine B3 rfl rfl rfl rfl ?_ | refine B4 rfl rfl rfl rfl ?_ | refine B5 rfl rfl rfl rfl ?_ | refine B6 rfl rfl rfl rfl ?_ | refine B7 rfl rfl rfl rfl rfl ?_ | refine B8 rfl rfl rfl rfl rfl ?_ | refine B9 rfl rfl rfl rfl rfl rfl rfl ?_ | refine BA rfl rfl rfl rfl rfl rfl rfl ?_) | (refine IsConv ?_; refine C1 rfl rfl rfl rfl rfl ?_) | (refine IsLoad ?_; first | refine L1 rfl rfl rfl rfl ?_ | refine L2 rfl rfl rfl rfl rfl ?_) | (refine IsStore ?_; refine S1 rfl rfl rfl rfl rfl rfl rfl (fun _ => ?_)) | (refine IsBox ?_; refine N1 rfl rfl rfl rfl (fun _ => ?_)) | (refine IsAlloc ?_; refine N2 rfl rfl rfl rfl (fun _ => ?_)) | (refine IsBuild ?_; refine U1 rfl rfl rfl rfl rfl rfl ?_) | refine V1 rfl rfl rfl ?_) | (refine IsAt ?_; first | (with_reducible first | refine T1 ?_ | refine T2 ?_ | refine T3 ?_ | refine T4 ?_ | refine T5 ?_ | refine T6 ?_ | refine T7 ?_ | refine T8 ?_ | refine T9 ?_ | refine TA ?_ | refine TB ?_ | refine TC ?_) | ((with_reducible show At _ (PBlock _ _ (Exit.exit _)) _ _); first | refine At_block_hit ?_ | refine At_block_miss rfl ?_)) | (refine IsJ ?_; first | refine J_seq ?_ | refine J_region ?_ | refine J_block ?_ | refine J_skip ?_ | refine J_ret ?_ | refine J_exit ?_ | (refine IsCond ?_; first | refine J_cond_t rfl ?_ | refine J_cond_f rfl ?_ | refine K1 rfl ?_ | refine K2 rfl ?_ | refine K3 rfl ?_ | refine K4 rfl ?_ | refine J_cb rfl (fun _ => ?_) (fun _ => ?_) | refine J_nb rfl (fun _ => ?_) (fun _ => ?_))))
    refine J_loop (α := Nat × List Int × Option Addr × Nat × List RO) (fun x => x.1 ≤ m3 ∧ BInv n s.T x.2.1 st x.2.2.2.2 s.hs)
      (fun x => [(2, ptr bg 0), (4, .pointer none), (5, .slice none 0 0), (6, ptr b6 0), (10, ptr p 0), (12, ptr b12 0), (13, .slice ta ns.length tc), (20, .int .i64 i), (21, ptr b21 0), (118, .slice (some ⟨b, o, none⟩) ns.length nc), (119, .int .i64 ns.length), (120, .int .i64 i), (160, .int .i64 m3), (161, .int .i64 x.1)])
      (fun x => [blk b21 [.int .u8 yk, .slice ea es.length ec, .int .u8 ym] 78, rowz 3 1 ta ns.length tc (intsV s.at_), blk b12 [.int .i64 n, .slice x.2.2.1 x.2.2.2.2.length x.2.2.2.1] 33] ++ heapL p bw bs n x.2.1 s.T st ++ refL x.2.2.1 x.2.2.2.1 x.2.2.2.2 ++ [blk b6 [.int .i64 0, .slice none 0 0] 33, blk bg [.slice (some ⟨b, o, none⟩) ns.length nc, .slice ra0 rs.length rc0] 25, R])
      (fun x => m3 - x.1) (0, ws, a, cap, os) ⟨Nat.zero_le _, hB⟩ (by repeat (first | exact True.intro | refine And.intro rfl ?_)) (fun H hl => hl) ?_
    clear hB
    rintro ⟨k, ws, a, cap, os⟩ ⟨hk, hB⟩
    dsimp only at hk hB ⊢
    repeat' (first | (refine IsO ?_; first | refine JO_nil ?_ | (refine IsG ?_; first | refine G1 rfl rfl ?_ | refine G2 rfl ?_) | (refine IsMove ?_; first | refine M1 rfl rfl rfl ?_ | refine M2 rfl rfl rfl ?_ | refine M3 rfl rfl rfl ?_ | refine M4 rfl rfl rfl ?_ | refine M5 rfl rfl rfl (fun _ => ?_) (fun _ => ?_) | refine M6 rfl rfl rfl (fun _ => ?_) (fun _ => ?_)) | (refine IsBin ?_; first | refine B1 rfl rfl rfl rfl ?_ | refine B2 rfl rfl rfl rfl ?_ | refine B3 rfl rfl rfl rfl ?_ | refine B4 rfl rfl rfl rfl ?_ | refine B5 rfl rfl rfl rfl ?_ | refine B6 rfl rfl rfl rfl ?_ | refine B7 rfl rfl rfl rfl rfl ?_ | refine B8 rfl rfl rfl rfl rfl ?_ | refine B9 rfl rfl rfl rfl rfl rfl rfl ?_ | refine BA rfl rfl rfl rfl rfl rfl rfl ?_) | (refine IsConv ?_; refine C1 rfl rfl rfl rfl rfl ?_) | (refine IsLoad ?_; first | refine L1 rfl rfl rfl rfl ?_ | refine L2 rfl rfl rfl rfl rfl ?_) | (refine IsStore ?_; refine S1 rfl rfl rfl rfl rfl rfl rfl (fun _ => ?_)) | (refine IsBox ?_; refine N1 rfl rfl rfl rfl (fun _ => ?_)) | (refine IsAlloc ?_; refine N2 rfl rfl rfl rfl (fun _ => ?_)) | (refine IsBuild ?_; refine U1 rfl rfl rfl rfl rfl rfl ?_) | refine V1 rfl rfl rfl ?_) | (refine IsAt ?_; first | (with_reducible first | refine T1 ?_ | refine T2 ?_ | refine T3 ?_ | refine T4 ?_ | refine T5 ?_ | refine T6 ?_ | refine T7 ?_ | refine T8 ?_ | refine T9 ?_ | refine TA ?_ | refine TB ?_ | refine TC ?_) | ((with_reducible show At _ (PBlock _ _ (Exit.exit _)) _ _); first | refine At_block_hit ?_ | refine At_block_miss rfl ?_)) | (refine IsJ ?_; first | refine J_seq ?_ | refine J_region ?_ | refine J_skip ?_ | refine J_ret ?_ | refine J_exit ?_ | (refine IsCond ?_; first | refine J_cond_t rfl ?_ | refine J_cond_f rfl ?_ | refine K1 rfl ?_ | refine K2 rfl ?_ | refine K3 rfl ?_ | refine K4 rfl ?_ | refine J_cb rfl (fun _ => ?_) (fun _ => ?_) | refine J_nb rfl (fun _ => ?_) (fun _ => ?_))))
    · rename_i hklt
      refine J_block ?_
      repeat' (first | (refine IsO ?_; first | refine JO_nil ?_ | (refine IsG ?_; first | refine G1 rfl rfl ?_ | refine G2 rfl ?_) | (refine IsMove ?_; first | refine M1 rfl rfl rfl ?_ | refine M2 rfl rfl rfl ?_ | refine M3 rfl rfl rfl ?_ | refine M4 rfl rfl rfl ?_ | refine M5 rfl rfl rfl (fun _ => ?_) (fun _ => ?_) | refine M6 rfl rfl rfl (fun _ => ?_) (fun _ => ?_)) | (refine IsBin ?_; first | refine B1 rfl rfl rfl rfl ?_ | refine B2 rfl rfl rfl rfl ?_ | refine B3 rfl rfl rfl rfl ?_ | refine B4 rfl rfl rfl rfl ?_ | refine B5 rfl rfl rfl rfl ?_ | refine B6 rfl rfl rfl rfl ?_ | refine B7 rfl rfl rfl rfl rfl ?_ | refine B8 rfl rfl rfl rfl rfl ?_ | refine B9 rfl rfl rfl rfl rfl rfl rfl ?_ | refine BA rfl rfl rfl rfl rfl rfl rfl ?_) | (refine IsConv ?_; refine C1 rfl rfl rfl rfl rfl ?_) | (refine IsLoad ?_; first | refine L1 rfl rfl rfl rfl ?_ | refine L2 rfl rfl rfl rfl rfl ?_) | (refine IsStore ?_; refine S1 rfl rfl rfl rfl rfl rfl rfl (fun _ => ?_)) | (refine IsBox ?_; refine N1 rfl rfl rfl rfl (fun _ => ?_)) | (refine IsAlloc ?_; refine N2 rfl rfl rfl rfl (fun _ => ?_)) | (refine IsBuild ?_; refine U1 rfl rfl rfl rfl rfl rfl ?_) | refine V1 rfl rfl rfl ?_) | (refine IsAt ?_; first | (with_reducible first | refine T1 ?_ | refine T2 ?_ | refine T3 ?_ | refine T4 ?_ | refine T5 ?_ | refine T6 ?_ | refine T7 ?_ | refine T8 ?_ | refine T9 ?_ | refine TA ?_ | refine TB ?_ | refine TC ?_) | ((with_reducible show At _ (PBlock _ _ (Exit.exit _)) _ _); first | refine At_block_hit ?_ | refine At_block_miss rfl ?_)) | (refine IsJ ?_; first | refine J_seq ?_ | refine J_region ?_ | refine J_block ?_ | refine J_skip ?_ | refine J_ret ?_ | refine J_exit ?_ | (refine IsCond ?_; first | refine J_cond_t rfl ?_ | refine J_cond_f rfl ?_ | refine K1 rfl ?_ | refine K2 rfl ?_ | refine K3 rfl ?_ | refine K4 rfl ?_ | refine J_cb rfl (fun _ => ?_) (fun _ => ?_) | refine J_nb rfl (fun _ => ?_) (fun _ => ?_))))
      refine J_rowzf P1 ?_
      rintro ⟨hl, hnn, hcc⟩
      have hR : Reads (rowz 3 1 ta ns.length tc (intsV s.at_)) 1 ns.length ta tc (intsV s.at_) := Reads.rowz hl hnn
      refine J_fact _ (fun w hs => hR.some (by omega) hs (by repeat (first | exact .head _ | refine .tail _ ?_))) ?_
      rintro ⟨bt, ot, rfl⟩
      have hqv : (intsV s.at_)[i]? = some (.int .i64 q) := by simp [intsV, hq]
      have h64 : In64 (100 * (i : Int) + k) := ⟨by omega, by omega⟩
      have hf3 : (es.length : Int) + k = ((es.length + k : Nat) : Int) := by omega
      refine J_draw [0, 0, 0, 0, 1, 0, 1, 0, 0, 0, 0, 0, 0, 0, 2] (List.range 15) (by kernel_rfl) (by kernel_rfl) ?_
      repeat' (refine IsX ?_; first | (refine JX_nil ?_; refine At_np ?_) | (refine JX_op rfl ?_; refine XsO ?_; first | (refine XsG ?_; refine XG1 rfl rfl rfl ?_) | (refine XsMove ?_; first | refine XM1 rfl rfl rfl rfl ?_ | refine XM2 rfl rfl rfl rfl ?_ | refine XM3 rfl rfl rfl rfl ?_ | refine XM4 rfl rfl rfl rfl ?_ | refine XM5 rfl rfl rfl rfl (fun _ => ?_) (fun _ => ?_) | refine XM6 rfl rfl rfl rfl (fun _ => ?_) (fun _ => ?_)) | (refine XsBin ?_; first | refine XB1 rfl rfl rfl rfl rfl ?_ | refine XB2 rfl rfl rfl rfl rfl ?_ | refine XB3 rfl rfl rfl rfl rfl ?_ | refine XB4 rfl rfl rfl rfl rfl ?_ | refine XB5 rfl rfl rfl rfl rfl ?_ | refine XB6 rfl rfl rfl rfl rfl ?_ | refine XB7 rfl rfl rfl rfl rfl rfl ?_ | refine XB8 rfl rfl rfl rfl rfl rfl ?_ | refine XB9 rfl rfl rfl rfl rfl rfl rfl rfl ?_ | refine XBA rfl rfl rfl rfl rfl rfl rfl rfl ?_) | (refine XsConv ?_; refine XC1 rfl rfl rfl rfl rfl rfl ?_) | (refine XsLoad ?_; first | refine XL1k rfl rfl rfl rfl rfl ?_ | refine XL2k rfl rfl rfl rfl rfl rfl ?_ | refine XL1 rfl rfl rfl rfl rfl ?_ | refine XL2 rfl rfl rfl rfl rfl rfl ?_) | (refine XsStore ?_; refine XS1 rfl rfl rfl rfl rfl rfl rfl rfl (fun _ => ?_)) | (refine XsBox ?_; refine XN1 rfl rfl rfl rfl rfl (fun _ => ?_)) | (refine XsAlloc ?_; refine XN2 rfl rfl rfl rfl rfl (fun _ => ?_)) | (refine XsBuild ?_; refine XU1 rfl rfl rfl rfl rfl rfl rfl ?_) | refine XV1 rfl rfl rfl rfl ?_))
      refine JX_val rfl rfl (OV_idx (off := ot + i) rfl rfl rfl rfl (by omega) (by omega) (by simp)) rfl rfl ?_
      refine JX_q rfl rfl (OQ_read (i := i) (v := .int .i64 q) hR (by repeat (first | exact .head _ | refine .tail _ ?_)) rfl rfl (by omega) hqv) rfl rfl ?_
      repeat' (refine IsX ?_; first | (refine JX_nil ?_; refine At_np ?_) | (refine JX_op rfl ?_; refine XsO ?_; first | (refine XsG ?_; refine XG1 rfl rfl rfl ?_) | (refine XsMove ?_; first | refine XM1 rfl rfl rfl rfl ?_ | refine XM2 rfl rfl rfl rfl ?_ | refine XM3 rfl rfl rfl rfl ?_ | refine XM4 rfl rfl rfl rfl ?_ | refine XM5 rfl rfl rfl rfl (fun _ => ?_) (fun _ => ?_) | refine XM6 rfl rfl rfl rfl (fun _ => ?_) (fun _ => ?_)) | (refine XsBin ?_; first | refine XB1 rfl rfl rfl rfl rfl ?_ | refine XB2 rfl rfl rfl rfl rfl ?_ | refine XB3 rfl rfl rfl rfl rfl ?_ | refine XB4 rfl rfl rfl rfl rfl ?_ | refine XB5 rfl rfl rfl rfl rfl ?_ | refine XB6 rfl rfl rfl rfl rfl ?_ | refine XB7 rfl rfl rfl rfl rfl rfl ?_ | refine XB8 rfl rfl rfl rfl rfl rfl ?_ | refine XB9 rfl rfl rfl rfl rfl rfl rfl rfl ?_ | refine XBA rfl rfl rfl rfl rfl rfl rfl rfl ?_) | (refine XsConv ?_; refine XC1 rfl rfl rfl rfl rfl rfl ?_) | (refine XsLoad ?_; first | refine XL1k rfl rfl rfl rfl rfl ?_ | refine XL2k rfl rfl rfl rfl rfl rfl ?_ | refine XL1 rfl rfl rfl rfl rfl ?_ | refine XL2 rfl rfl rfl rfl rfl rfl ?_) | (refine XsStore ?_; refine XS1 rfl rfl rfl rfl rfl rfl rfl rfl (fun _ => ?_)) | (refine XsBox ?_; refine XN1 rfl rfl rfl rfl rfl (fun _ => ?_)) | (refine XsAlloc ?_; refine XN2 rfl rfl rfl rfl rfl (fun _ => ?_)) | (refine XsBuild ?_; refine XU1 rfl rfl rfl rfl rfl rfl rfl ?_) | refine XV1 rfl rfl rfl rfl ?_))
      obtain ⟨word, hwd⟩ : ∃ word, word = 100 * (i : Int) + k := ⟨_, rfl⟩
      rw [← hwd] at h64
      rw [hf3, ← hwd]
      refine JX_l rfl rfl (OL_call [3, 3, 3] rfl rfl rfl (Write_specT q (es.length + k : Nat) word hB.ht h64) rfl) rfl rfl ?_
      rintro _ _ ⟨_, ⟨rfl, rfl⟩, rfl⟩
      repeat' (refine IsX ?_; first | (refine JX_nil ?_; refine At_np ?_) | (refine JX_op rfl ?_; refine XsO ?_; first | (refine XsG ?_; refine XG1 rfl rfl rfl ?_) | (refine XsMove ?_; first | refine XM1 rfl rfl rfl rfl ?_ | refine XM2 rfl rfl rfl rfl ?_ | refine XM3 rfl rfl rfl rfl ?_ | refine XM4 rfl rfl rfl rfl ?_ | refine XM5 rfl rfl rfl rfl (fun _ => ?_) (fun _ => ?_) | refine XM6 rfl rfl rfl rfl (fun _ => ?_) (fun _ => ?_)) | (refine XsBin ?_; first | refine XB1 rfl rfl rfl rfl rfl ?_ | refine XB2 rfl rfl rfl rfl rfl ?_ | refine XB3 rfl rfl rfl rfl rfl ?_ | refine XB4 rfl rfl rfl rfl rfl ?_ | refine XB5 rfl rfl rfl rfl rfl ?_ | refine XB6 rfl rfl rfl rfl rfl ?_ | refine XB7 rfl rfl rfl rfl rfl rfl ?_ | refine XB8 rfl rfl rfl rfl rfl rfl ?_ | refine XB9 rfl rfl rfl rfl rfl rfl rfl rfl ?_ | refine XBA rfl rfl rfl rfl rfl rfl rfl rfl ?_) | (refine XsConv ?_; refine XC1 rfl rfl rfl rfl rfl rfl ?_) | (refine XsLoad ?_; first | refine XL1k rfl rfl rfl rfl rfl ?_ | refine XL2k rfl rfl rfl rfl rfl rfl ?_ | refine XL1 rfl rfl rfl rfl rfl ?_ | refine XL2 rfl rfl rfl rfl rfl rfl ?_) | (refine XsStore ?_; refine XS1 rfl rfl rfl rfl rfl rfl rfl rfl (fun _ => ?_)) | (refine XsBox ?_; refine XN1 rfl rfl rfl rfl rfl (fun _ => ?_)) | (refine XsAlloc ?_; refine XN2 rfl rfl rfl rfl rfl (fun _ => ?_)) | (refine XsBuild ?_; refine XU1 rfl rfl rfl rfl rfl rfl rfl ?_) | refine XV1 rfl rfl rfl rfl ?_))
      repeat' (first | (refine IsO ?_; first | refine JO_nil ?_ | (refine IsG ?_; first | refine G1 rfl rfl ?_ | refine G2 rfl ?_) | (refine IsMove ?_; first | refine M1 rfl rfl rfl ?_ | refine M2 rfl rfl rfl ?_ | refine M3 rfl rfl rfl ?_ | refine M4 rfl rfl rfl ?_ | refine M5 rfl rfl rfl (fun _ => ?_) (fun _ => ?_) | refine M6 rfl rfl rfl (fun _ => ?_) (fun _ => ?_)) | (refine IsBin ?_; first | refine B1 rfl rfl rfl rfl ?_ | refine B2 rfl rfl rfl rfl ?_ | refine B3 rfl rfl rfl rfl ?_ | refine B4 rfl rfl rfl rfl ?_ | refine B5 rfl rfl rfl rfl ?_ | refine B6 rfl rfl rfl rfl ?_ | refine B7 rfl rfl rfl rfl rfl ?_ | refine B8 rfl rfl rfl rfl rfl ?_ | refine B9 rfl rfl rfl rfl rfl rfl rfl ?_ | refine BA rfl rfl rfl rfl rfl rfl rfl ?_) | (refine IsConv ?_; refine C1 rfl rfl rfl rfl rfl ?_) | (refine IsLoad ?_; first | refine L1 rfl rfl rfl rfl ?_ | refine L2 rfl rfl rfl rfl rfl ?_) | (refine IsStore ?_; refine S1 rfl rfl rfl rfl rfl rfl rfl (fun _ => ?_)) | (refine IsBox ?_; refine N1 rfl rfl rfl rfl (fun _ => ?_)) | (refine IsAlloc ?_; refine N2 rfl rfl rfl rfl (fun _ => ?_)) | (refine IsBuild ?_; refine U1 rfl rfl rfl rfl rfl rfl ?_) | refine V1 rfl rfl rfl ?_) | (refine IsAt ?_; first | (with_reducible first | refine T1 ?_ | refine T2 ?_ | refine T3 ?_ | refine T4 ?_ | refine T5 ?_ | refine T6 ?_ | refine T7 ?_ | refine T8 ?_ | refine T9 ?_ | refine TA ?_ | refine TB ?_ | refine TC ?_) | ((with_reducible show At _ (PBlock _ _ (Exit.exit _)) _ _); first | refine At_block_hit ?_ | refine At_block_miss rfl ?_)) | (refine IsJ ?_; first | refine J_seq ?_ | refine J_region ?_ | refine J_block ?_ | refine J_skip ?_ | refine J_ret ?_ | refine J_exit ?_ | (refine IsCond ?_; first | refine J_cond_t rfl ?_ | refine J_cond_f rfl ?_ | refine K1 rfl ?_ | refine K2 rfl ?_ | refine K3 rfl ?_ | refine K4 rfl ?_ | refine J_cb rfl (fun _ => ?_) (fun _ => ?_) | refine J_nb rfl (fun _ => ?_) (fun _ => ?_))))
      refine J_draw [1, 0, 0, 0, 1, 0, 1, 0, 0, 0, 0, 0, 0, 0, 2, 0, 0, 0, 2] (List.range 19) (by kernel_rfl) (by kernel_rfl) ?_
      repeat' (refine IsX ?_; first | (refine JX_nil ?_; refine At_np ?_) | (refine JX_op rfl ?_; refine XsO ?_; first | (refine XsG ?_; refine XG1 rfl rfl rfl ?_) | (refine XsMove ?_; first | refine XM1 rfl rfl rfl rfl ?_ | refine XM2 rfl rfl rfl rfl ?_ | refine XM3 rfl rfl rfl rfl ?_ | refine XM4 rfl rfl rfl rfl ?_ | refine XM5 rfl rfl rfl rfl (fun _ => ?_) (fun _ => ?_) | refine XM6 rfl rfl rfl rfl (fun _ => ?_) (fun _ => ?_)) | (refine XsBin ?_; first | refine XB1 rfl rfl rfl rfl rfl ?_ | refine XB2 rfl rfl rfl rfl rfl ?_ | refine XB3 rfl rfl rfl rfl rfl ?_ | refine XB4 rfl rfl rfl rfl rfl ?_ | refine XB5 rfl rfl rfl rfl rfl ?_ | refine XB6 rfl rfl rfl rfl rfl ?_ | refine XB7 rfl rfl rfl rfl rfl rfl ?_ | refine XB8 rfl rfl rfl rfl rfl rfl ?_ | refine XB9 rfl rfl rfl rfl rfl rfl rfl rfl ?_ | refine XBA rfl rfl rfl rfl rfl rfl rfl rfl ?_) | (refine XsConv ?_; refine XC1 rfl rfl rfl rfl rfl rfl ?_) | (refine XsLoad ?_; first | refine XL1k rfl rfl rfl rfl rfl ?_ | refine XL2k rfl rfl rfl rfl rfl rfl ?_ | refine XL1 rfl rfl rfl rfl rfl ?_ | refine XL2 rfl rfl rfl rfl rfl rfl ?_) | (refine XsStore ?_; refine XS1 rfl rfl rfl rfl rfl rfl rfl rfl (fun _ => ?_)) | (refine XsBox ?_; refine XN1 rfl rfl rfl rfl rfl (fun _ => ?_)) | (refine XsAlloc ?_; refine XN2 rfl rfl rfl rfl rfl (fun _ => ?_)) | (refine XsBuild ?_; refine XU1 rfl rfl rfl rfl rfl rfl rfl ?_) | refine XV1 rfl rfl rfl rfl ?_))
      refine JX_val rfl rfl (OV_idx (off := ot + i) rfl rfl rfl rfl (by omega) (by omega) (by simp)) rfl rfl ?_
      refine JX_q rfl rfl (OQ_read (i := i) (v := .int .i64 q) hR (by repeat (first | exact .head _ | refine .tail _ ?_)) rfl rfl (by omega) hqv) rfl rfl ?_
      repeat' (refine IsX ?_; first | (refine JX_nil ?_; refine At_np ?_) | (refine JX_op rfl ?_; refine XsO ?_; first | (refine XsG ?_; refine XG1 rfl rfl rfl ?_) | (refine XsMove ?_; first | refine XM1 rfl rfl rfl rfl ?_ | refine XM2 rfl rfl rfl rfl ?_ | refine XM3 rfl rfl rfl rfl ?_ | refine XM4 rfl rfl rfl rfl ?_ | refine XM5 rfl rfl rfl rfl (fun _ => ?_) (fun _ => ?_) | refine XM6 rfl rfl rfl rfl (fun _ => ?_) (fun _ => ?_)) | (refine XsBin ?_; first | refine XB1 rfl rfl rfl rfl rfl ?_ | refine XB2 rfl rfl rfl rfl rfl ?_ | refine XB3 rfl rfl rfl rfl rfl ?_ | refine XB4 rfl rfl rfl rfl rfl ?_ | refine XB5 rfl rfl rfl rfl rfl ?_ | refine XB6 rfl rfl rfl rfl rfl ?_ | refine XB7 rfl rfl rfl rfl rfl rfl ?_ | refine XB8 rfl rfl rfl rfl rfl rfl ?_ | refine XB9 rfl rfl rfl rfl rfl rfl rfl rfl ?_ | refine XBA rfl rfl rfl rfl rfl rfl rfl rfl ?_) | (refine XsConv ?_; refine XC1 rfl rfl rfl rfl rfl rfl ?_) | (refine XsLoad ?_; first | refine XL1k rfl rfl rfl rfl rfl ?_ | refine XL2k rfl rfl rfl rfl rfl rfl ?_ | refine XL1 rfl rfl rfl rfl rfl ?_ | refine XL2 rfl rfl rfl rfl rfl rfl ?_) | (refine XsStore ?_; refine XS1 rfl rfl rfl rfl rfl rfl rfl rfl (fun _ => ?_)) | (refine XsBox ?_; refine XN1 rfl rfl rfl rfl rfl (fun _ => ?_)) | (refine XsAlloc ?_; refine XN2 rfl rfl rfl rfl rfl (fun _ => ?_)) | (refine XsBuild ?_; refine XU1 rfl rfl rfl rfl rfl rfl rfl ?_) | refine XV1 rfl rfl rfl rfl ?_))
      rw [hf3, ← hwd]
      refine JX_l rfl rfl (OL_call [6, 6] rfl rfl rfl (refWrite_spec n q (es.length + k : Nat) word hB.ht hB.ch h64) rfl) rfl rfl ?_
      rintro _ _ ⟨_, ⟨a4, c4, os4, hc4, rfl, rfl⟩, rfl⟩
      have hB2 := hB.write h64 hc4
      generalize writeW ws st q (es.length + k : Nat) word = ws2 at hB2
      repeat' (refine IsX ?_; first | (refine JX_nil ?_; refine At_np ?_) | (refine JX_op rfl ?_; refine XsO ?_; first | (refine XsG ?_; refine XG1 rfl rfl rfl ?_) | (refine XsMove ?_; first | refine XM1 rfl rfl rfl rfl ?_ | refine XM2 rfl rfl rfl rfl ?_ | refine XM3 rfl rfl rfl rfl ?_ | refine XM4 rfl rfl rfl rfl ?_ | refine XM5 rfl rfl rfl rfl (fun _ => ?_) (fun _ => ?_) | refine XM6 rfl rfl rfl rfl (fun _ => ?_) (fun _ => ?_)) | (refine XsBin ?_; first | refine XB1 rfl rfl rfl rfl rfl ?_ | refine XB2 rfl rfl rfl rfl rfl ?_ | refine XB3 rfl rfl rfl rfl rfl ?_ | refine XB4 rfl rfl rfl rfl rfl ?_ | refine XB5 rfl rfl rfl rfl rfl ?_ | refine XB6 rfl rfl rfl rfl rfl ?_ | refine XB7 rfl rfl rfl rfl rfl rfl ?_ | refine XB8 rfl rfl rfl rfl rfl rfl ?_ | refine XB9 rfl rfl rfl rfl rfl rfl rfl rfl ?_ | refine XBA rfl rfl rfl rfl rfl rfl rfl rfl ?_) | (refine XsConv ?_; refine XC1 rfl rfl rfl rfl rfl rfl ?_) | (refine XsLoad ?_; first | refine XL1k rfl rfl rfl rfl rfl ?_ | refine XL2k rfl rfl rfl rfl rfl rfl ?_ | refine XL1 rfl rfl rfl rfl rfl ?_ | refine XL2 rfl rfl rfl rfl rfl rfl ?_) | (refine XsStore ?_; refine XS1 rfl rfl rfl rfl rfl rfl rfl rfl (fun _ => ?_)) | (refine XsBox ?_; refine XN1 rfl rfl rfl rfl rfl (fun _ => ?_)) | (refine XsAlloc ?_; refine XN2 rfl rfl rfl rfl rfl (fun _ => ?_)) | (refine XsBuild ?_; refine XU1 rfl rfl rfl rfl rfl rfl rfl ?_) | refine XV1 rfl rfl rfl rfl ?_))
      repeat' (first | (refine IsO ?_; first | refine JO_nil ?_ | (refine IsG ?_; first | refine G1 rfl rfl ?_ | refine G2 rfl ?_) | (refine IsMove ?_; first | refine M1 rfl rfl rfl ?_ | refine M2 rfl rfl rfl ?_ | refine M3 rfl rfl rfl ?_ | refine M4 rfl rfl rfl ?_ | refine M5 rfl rfl rfl (fun _ => ?_) (fun _ => ?_) | refine M6 rfl rfl rfl (fun _ => ?_) (fun _ => ?_)) | (refine IsBin ?_; first | refine B1 rfl rfl rfl rfl ?_ | refine B2 rfl rfl rfl rfl ?_ | refine B3 rfl rfl rfl rfl ?_ | refine B4 rfl rfl rfl rfl ?_ | refine B5 rfl rfl rfl rfl ?_ | refine B6 rfl rfl rfl rfl ?_ | refine B7 rfl rfl rfl rfl rfl ?_ | refine B8 rfl rfl rfl rfl rfl ?_ | refine B9 rfl rfl rfl rfl rfl rfl rfl ?_ | refine BA rfl rfl rfl rfl rfl rfl rfl ?_) | (refine IsConv ?_; refine C1 rfl rfl rfl rfl rfl ?_) | (refine IsLoad ?_; first | refine L1 rfl rfl rfl rfl ?_ | refine L2 rfl rfl rfl rfl rfl ?_) | (refine IsStore ?_; refine S1 rfl rfl rfl rfl rfl rfl rfl (fun _ => ?_)) | (refine IsBox ?_; refine N1 rfl rfl rfl rfl (fun _ => ?_)) | (refine IsAlloc ?_; refine N2 rfl rfl rfl rfl (fun _ => ?_)) | (refine IsBuild ?_; refine U1 rfl rfl rfl rfl rfl rfl ?_) | refine V1 rfl rfl rfl ?_) | (refine IsAt ?_; first | (with_reducible first | refine T1 ?_ | refine T2 ?_ | refine T3 ?_ | refine T4 ?_ | refine T5 ?_ | refine T6 ?_ | refine T7 ?_ | refine T8 ?_ | refine T9 ?_ | refine TA ?_ | refine TB ?_ | refine TC ?_) | ((with_reducible show At _ (PBlock _ _ (Exit.exit _)) _ _); first | refine At_block_hit ?_ | refine At_block_miss rfl ?_)) | (refine IsJ ?_; first | refine J_seq ?_ | refine J_region ?_ | refine J_block ?_ | refine J_skip ?_ | refine J_ret ?_ | refine J_exit ?_ | (refine IsCond ?_; first | refine J_cond_t rfl ?_ | refine J_cond_f rfl ?_ | refine K1 rfl ?_ | refine K2 rfl ?_ | refine K3 rfl ?_ | refine K4 rfl ?_ | refine J_cb rfl (fun _ => ?_) (fun _ => ?_) | refine J_nb rfl (fun _ => ?_) (fun _ => ?_))))
      exact At_round (k + 1, ws2, a4, c4, os4) (by show m3 - (k + 1) < m3 - k; omega) ⟨by show k + 1 ≤ m3; omega, hB2⟩ (by repeat (first | exact True.intro | refine And.intro rfl ?_)) (fun H hl => hl.pick (is := [6, 6, 0, 2, 2, 2, 0, 0, 0, 0, 0]) rfl)
    · repeat' (first | (refine IsO ?_; first | refine JO_nil ?_ | (refine IsG ?_; first | refine G1 rfl rfl ?_ | refine G2 rfl ?_) | (refine IsMove ?_; first | refine M1 rfl rfl rfl ?_ | refine M2 rfl rfl rfl ?_ | refine M3 rfl rfl rfl ?_ | refine M4 rfl rfl rfl ?_ | refine M5 rfl rfl rfl (fun _ => ?_) (fun _ => ?_) | refine M6 rfl rfl rfl (fun _ => ?_) (fun _ => ?_)) | (refine IsBin ?_; first | refine B1 rfl rfl rfl rfl ?_ | refine B2 rfl rfl rfl rfl ?_ | refine B3 rfl rfl rfl rfl ?_ | refine B4 rfl rfl rfl rfl ?_ | refine B5 rfl rfl rfl rfl ?_ | refine B6 rfl rfl rfl rfl ?_ | refine B7 rfl rfl rfl rfl rfl ?_ | refine B8 rfl rfl rfl rfl rfl ?_ | refine B9 rfl rfl rfl rfl rfl rfl rfl ?_ | refine BA rfl rfl rfl rfl rfl rfl rfl ?_) | (refine IsConv ?_; refine C1 rfl rfl rfl rfl rfl ?_) | (refine IsLoad ?_; first | refine L1 rfl rfl rfl rfl ?_ | refine L2 rfl rfl rfl rfl rfl ?_) | (refine IsStore ?_; refine S1 rfl rfl rfl rfl rfl rfl rfl (fun _ => ?_)) | (refine IsBox ?_; refine N1 rfl rfl rfl rfl (fun _ => ?_)) | (refine IsAlloc ?_; refine N2 rfl rfl rfl rfl (fun _ => ?_)) | (refine IsBuild ?_; refine U1 rfl rfl rfl rfl rfl rfl ?_) | refine V1 rfl rfl rfl ?_) | (refine IsAt ?_; first | (with_reducible first | refine T1 ?_ | refine T2 ?_ | refine T3 ?_ | refine T4 ?_ | refine T5 ?_ | refine T6 ?_ | refine T7 ?_ | refine T8 ?_ | refine T9 ?_ | refine TA ?_ | refine TB ?_ | refine TC ?_) | ((with_reducible show At _ (PBlock _ _ (Exit.exit _)) _ _); first | refine At_block_hit ?_ | refine At_block_miss rfl ?_)) | (refine IsJ ?_; first | refine J_seq ?_ | refine J_region ?_ | refine J_block ?_ | refine J_skip ?_ | refine J_ret ?_ | refine J_exit ?_ | (refine IsCond ?_; first | refine J_cond_t rfl ?_ | refine J_cond_f rfl ?_ | refine K1 rfl ?_ | refine K2 rfl ?_ | refine K3 rfl ?_ | refine K4 rfl ?_ | refine J_cb rfl (fun _ => ?_) (fun _ => ?_) | refine J_nb rfl (fun _ => ?_) (fun _ => ?_))))
      exact At_round (i + 1, ws, a, cap, os) (by show ns.length - (i + 1) < ns.length - i; omega) ⟨by show i + 1 ≤ ns.length; omega, hB⟩ (by repeat (first | exact True.intro | refine And.intro rfl ?_)) (fun H hl => hl.tail)
  repeat' (first | (refine IsO ?_; first | refine JO_nil ?_ | (refine IsG ?_; first | refine G1 rfl rfl ?_ | refine G2 rfl ?_) | (refine IsMove ?_; first | refine M1 rfl rfl rfl ?_ | refine M2 rfl rfl rfl ?_ | refine M3 rfl rfl rfl ?_ | refine M4 rfl rfl rfl ?_ | refine M5 rfl rfl rfl (fun _ => ?_) (fun _ => ?_) | refine M6 rfl rfl rfl (fun _ => ?_) (fun _ => ?_)) | (refine IsBin ?_; first | refine B1 rfl rfl rfl rfl ?_ | refine B2 rfl rfl rfl rfl ?_ | refine B3 rfl rfl rfl rfl ?_ | refine B4 rfl rfl rfl rfl ?_ | refine B5 rfl rfl rfl rfl ?_ | refine B6 rfl rfl rfl rfl ?_ | refine B7 rfl rfl rfl rfl rfl ?_ | refine B8 rfl rfl rfl rfl rfl ?_ | refine B9 rfl rfl rfl rfl rfl rfl rfl ?_ | refine BA rfl rfl rfl rfl rfl rfl rfl ?_) | (refine IsConv ?_; refine C1 rfl rfl rfl rfl rfl ?_) | (refine IsLoad ?_; first | refine L1 rfl rfl rfl rfl ?_ | refine L2 rfl rfl rfl rfl rfl ?_) | (refine IsStore ?_; refine S1 rfl rfl rfl rfl rfl rfl rfl (fun _ => ?_)) | (refine IsBox ?_; refine N1 rfl rfl rfl rfl (fun _ => ?_)) | (refine IsAlloc ?_; refine N2 rfl rfl rfl rfl (fun _ => ?_)) | (refine IsBuild ?_; refine U1 rfl rfl rfl rfl rfl rfl ?_) | refine V1 rfl rfl rfl ?_) | (refine IsAt ?_; first | (with_reducible first | refine T1 ?_ | refine T2 ?_ | refine T3 ?_ | refine T4 ?_ | refine T5 ?_ | refine T6 ?_ | refine T7 ?_ | refine T8 ?_ | refine T9 ?_ | refine TA ?_ | refine TB ?_ | refine TC ?_) | ((with_reducible show At _ (PBlock _ _ (Exit.exit _)) _ _); first | refine At_block_hit ?_ | refine At_block_miss rfl ?_)) | (refine IsJ ?_; first | refine J_seq ?_ | refine J_region ?_ | refine J_block ?_ | refine J_skip ?_ | refine J_ret ?_ | refine J_exit ?_ | (refine IsCond ?_; first | refine J_cond_t rfl ?_ | refine J_cond_f rfl ?_ | refine K1 rfl ?_ | refine K2 rfl ?_ | refine K3 rfl ?_ | refine K4 rfl ?_ | refine J_cb rfl (fun _ => ?_) (fun _ => ?_) | refine J_nb rfl (fun _ => ?_) (fun _ => ?_))))
  refine J_loop (α := Nat × Option Addr × Nat) (fun x => x.1 ≤ rs.length)
    (fun x => [(4, .pointer none), (5, .slice none 0 0), (6, ptr b6 0), (10, ptr p 0), (12, ptr b12 0), (13, .slice ta ns.length tc), (25, .slice x.2.1 x.1 x.2.2), (200, .slice ra0 rs.length rc0), (201, .int .i64 rs.length), (202, .int .i64 x.1)])
    (fun x => [rowz 3 1 x.2.1 x.1 x.2.2 (intsV ((rs.take x.1).map (plcI s.at_))), rowz 3 1 ta ns.length tc (intsV s.at_), blk b12 [.int .i64 n, .slice a os.length cap] 33] ++ heapL p bw bs n ws s.T st ++ refL a cap os ++ [blk b6 [.int .i64 0, .slice none 0 0] 33, R])
    (fun x => rs.length - x.1) (0, none, 0) (Nat.zero_le _) (by repeat (first | exact True.intro | refine And.intro rfl ?_)) (fun H hl => (rowz_nil (T := 3) (sz := 1) (a := none) hl).pick (is := [0, 0, 0, 0, 0, 0, 0, 0, 0, 1]) rfl) ?_
  rintro ⟨k, ra, rc⟩ hk
  dsimp only at hk ⊢
  repeat' (first | (refine IsO ?_; first | refine JO_nil ?_ | (refine IsG ?_; first | refine G1 rfl rfl ?_ | refine G2 rfl ?_) | (refine IsMove ?_; first | refine M1 rfl rfl rfl ?_ | refine M2 rfl rfl rfl ?_ | refine M3 rfl rfl rfl ?_ | refine M4 rfl rfl rfl ?_ | refine M5 rfl rfl rfl (fun _ => ?_) (fun _ => ?_) | refine M6 rfl rfl rfl (fun _ => ?_) (fun _ => ?_)) | (refine IsBin ?_; first | refine B1 rfl rfl rfl rfl ?_ | refine B2 rfl rfl rfl rfl ?_ | refine B3 rfl rfl rfl rfl ?_ | refine B4 rfl rfl rfl rfl ?_ | refine B5 rfl rfl rfl rfl ?_ | refine B6 rfl rfl rfl rfl ?_ | refine B7 rfl rfl rfl rfl rfl ?_ | refine B8 rfl rfl rfl rfl rfl ?_ | refine B9 rfl rfl rfl rfl rfl rfl rfl ?_ | refine BA rfl rfl rfl rfl rfl rfl rfl ?_) | (refine IsConv ?_; refine C1 rfl rfl rfl rfl rfl ?_) | (refine IsLoad ?_; first | refine L1 rfl rfl rfl rfl ?_ | refine L2 rfl rfl rfl rfl rfl ?_) | (refine IsStore ?_; refine S1 rfl rfl rfl rfl rfl rfl rfl (fun _ => ?_)) | (refine IsBox ?_; refine N1 rfl rfl rfl rfl (fun _ => ?_)) | (refine IsAlloc ?_; refine N2 rfl rfl rfl rfl (fun _ => ?_)) | (refine IsBuild ?_; refine U1 rfl rfl rfl rfl rfl rfl ?_) | refine V1 rfl rfl rfl ?_) | (refine IsAt ?_; first | (with_reducible first | refine T1 ?_ | refine T2 ?_ | refine T3 ?_ | refine T4 ?_ | refine T5 ?_ | refine T6 ?_ | refine T7 ?_ | refine T8 ?_ | refine T9 ?_ | refine TA ?_ | refine TB ?_ | refine TC ?_) | ((with_reducible show At _ (PBlock _ _ (Exit.exit _)) _ _); first | refine At_block_hit ?_ | refine At_block_miss rfl ?_)) | (refine IsJ ?_; first | refine J_seq ?_ | refine J_region ?_ | refine J_skip ?_ | refine J_ret ?_ | refine J_exit ?_ | (refine IsCond ?_; first | refine J_cond_t rfl ?_ | refine J_cond_f rfl ?_ | refine K1 rfl ?_ | refine K2 rfl ?_ | refine K3 rfl ?_ | refine K4 rfl ?_ | refine J_cb rfl (fun _ => ?_) (fun _ => ?_) | refine J_nb rfl (fun _ => ?_) (fun _ => ?_))))
  · rename_i hklt
    refine J_block ?_
    obtain ⟨e, he⟩ : ∃ e, rs[k]? = some e := ⟨rs[k]'(by omega), List.getElem?_eq_getElem _⟩
    obtain ⟨he0, he1⟩ := hrb e (List.mem_of_getElem? he)
    repeat' (first | (refine IsO ?_; first | refine JO_nil ?_ | (refine IsG ?_; first | refine G1 rfl rfl ?_ | refine G2 rfl ?_) | (refine IsMove ?_; first | refine M1 rfl rfl rfl ?_ | refine M2 rfl rfl rfl ?_ | refine M3 rfl rfl rfl ?_ | refine M4 rfl rfl rfl ?_ | refine M5 rfl rfl rfl (fun _ => ?_) (fun _ => ?_) | refine M6 rfl rfl rfl (fun _ => ?_) (fun _ => ?_)) | (refine IsBin ?_; first | refine B1 rfl rfl rfl rfl ?_ | refine B2 rfl rfl rfl rfl ?_ | refine B3 rfl rfl rfl rfl ?_ | refine B4 rfl rfl rfl rfl ?_ | refine B5 rfl rfl rfl rfl ?_ | refine B6 rfl rfl rfl rfl ?_ | refine B7 rfl rfl rfl rfl rfl ?_ | refine B8 rfl rfl rfl rfl rfl ?_ | refine B9 rfl rfl rfl rfl rfl rfl rfl ?_ | refine BA rfl rfl rfl rfl rfl rfl rfl ?_) | (refine IsConv ?_; refine C1 rfl rfl rfl rfl rfl ?_) | (refine IsLoad ?_; first | refine L1 rfl rfl rfl rfl ?_ | refine L2 rfl rfl rfl rfl rfl ?_) | (refine IsStore ?_; refine S1 rfl rfl rfl rfl rfl rfl rfl (fun _ => ?_)) | (refine IsBox ?_; refine N1 rfl rfl rfl rfl (fun _ => ?_)) | (refine IsAlloc ?_; refine N2 rfl rfl rfl rfl (fun _ => ?_)) | (refine IsBuild ?_; refine U1 rfl rfl rfl rfl rfl rfl ?_) | refine V1 rfl rfl rfl ?_) | (refine IsAt ?_; first | (with_reducible first | refine T1 ?_ | refine T2 ?_ | refine T3 ?_ | refine T4 ?_ | refine T5 ?_ | refine T6 ?_ | refine T7 ?_ | refine T8 ?_ | refine T9 ?_ | refine TA ?_ | refine TB ?_ | refine TC ?_) | ((with_reducible show At _ (PBlock _ _ (Exit.exit _)) _ _); first | refine At_block_hit ?_ | refine At_block_miss rfl ?_)) | (refine IsJ ?_; first | refine J_seq ?_ | refine J_region ?_ | refine J_block ?_ | refine J_skip ?_ | refine J_ret ?_ | refine J_exit ?_ | (refine IsCond ?_; first | refine J_cond_t rfl ?_ | refine J_cond_f rfl ?_ | refine K1 rfl ?_ | refine K2 rfl ?_ | refine K3 rfl ?_ | refine K4 rfl ?_ | refine J_cb rfl (fun _ => ?_) (fun _ => ?_) | refine J_nb rfl (fun _ => ?_) (fun _ => ?_))))
    refine JO_fact _ (fun w hs => hrr.some (by omega) hs (by repeat (first | exact .head _ | refine .tail _ ?_))) ?_
    rintro ⟨b1, o1, rfl⟩
    refine JO_val (OV_idx (off := o1 + k) rfl rfl rfl rfl (by omega) (by omega) (by simp)) rfl rfl ?_
    refine JO_q (OQ_read (v := .int .u8 e) hrr (by repeat (first | exact .head _ | refine .tail _ ?_)) rfl rfl (by omega) (by simp [u8V, he])) rfl rfl ?_
    repeat' (first | (refine IsO ?_; first | refine JO_nil ?_ | (refine IsG ?_; first | refine G1 rfl rfl ?_ | refine G2 rfl ?_) | (refine IsMove ?_; first | refine M1 rfl rfl rfl ?_ | refine M2 rfl rfl rfl ?_ | refine M3 rfl rfl rfl ?_ | refine M4 rfl rfl rfl ?_ | refine M5 rfl rfl rfl (fun _ => ?_) (fun _ => ?_) | refine M6 rfl rfl rfl (fun _ => ?_) (fun _ => ?_)) | (refine IsBin ?_; first | refine B1 rfl rfl rfl rfl ?_ | refine B2 rfl rfl rfl rfl ?_ | refine B3 rfl rfl rfl rfl ?_ | refine B4 rfl rfl rfl rfl ?_ | refine B5 rfl rfl rfl rfl ?_ | refine B6 rfl rfl rfl rfl ?_ | refine B7 rfl rfl rfl rfl rfl ?_ | refine B8 rfl rfl rfl rfl rfl ?_ | refine B9 rfl rfl rfl rfl rfl rfl rfl ?_ | refine BA rfl rfl rfl rfl rfl rfl rfl ?_) | (refine IsConv ?_; refine C1 rfl rfl rfl rfl rfl ?_) | (refine IsLoad ?_; first | refine L1 rfl rfl rfl rfl ?_ | refine L2 rfl rfl rfl rfl rfl ?_) | (refine IsStore ?_; refine S1 rfl rfl rfl rfl rfl rfl rfl (fun _ => ?_)) | (refine IsBox ?_; refine N1 rfl rfl rfl rfl (fun _ => ?_)) | (refine IsAlloc ?_; refine N2 rfl rfl rfl rfl (fun _ => ?_)) | (refine IsBuild ?_; refine U1 rfl rfl rfl rfl rfl rfl ?_) | refine V1 rfl rfl rfl ?_) | (refine IsAt ?_; first | (with_reducible first | refine T1 ?_ | refine T2 ?_ | refine T3 ?_ | refine T4 ?_ | refine T5 ?_ | refine T6 ?_ | refine T7 ?_ | refine T8 ?_ | refine T9 ?_ | refine TA ?_ | refine TB ?_ | refine TC ?_) | ((with_reducible show At _ (PBlock _ _ (Exit.exit _)) _ _); first | refine At_block_hit ?_ | refine At_block_miss rfl ?_)) | (refine IsJ ?_; first | refine J_seq ?_ | refine J_region ?_ | refine J_block ?_ | refine J_skip ?_ | refine J_ret ?_ | refine J_exit ?_ | (refine IsCond ?_; first | refine J_cond_t rfl ?_ | refine J_cond_f rfl ?_ | refine K1 rfl ?_ | refine K2 rfl ?_ | refine K3 rfl ?_ | refine K4 rfl ?_ | refine J_cb rfl (fun _ => ?_) (fun _ => ?_) | refine J_nb rfl (fun _ => ?_) (fun _ => ?_))))
    refine JO_fact _ (fun w hs => rowz_len (T := 3) (sz := 1) (m := ns.length) (cap := tc) (a := ta) (cs := intsV s.at_) hs (by repeat (first | exact .head _ | refine .tail _ ?_))) ?_
    rintro ⟨hl, hnn, hcc⟩
    have hR : Reads (rowz 3 1 ta ns.length tc (intsV s.at_)) 1 ns.length ta tc (intsV s.at_) := Reads.rowz hl hnn
    have hpl : Does Try.prog 34 [.slice ta ns.length tc, .int .u8 e] [rowz 3 1 ta ns.length tc (intsV s.at_)] (fun v l => v = .int .i64 (plcI s.at_ e) ∧ l = [rowz 3 1 ta ns.length tc (intsV s.at_)]) := by
      rw [← hLa] at hR ⊢
      exact place11_spec e he0 he1 (by omega) hLb2 hR
    have hnx : intsV ((rs.take (k + 1)).map (plcI s.at_)) = intsV ((rs.take k).map (plcI s.at_)) ++ [.int .i64 (plcI s.at_ e)] := by
      rw [take_next he, List.map_append]
      exact List.map_append
    generalize plcI s.at_ e = word at hpl hnx
    refine JO_l (OL_call [1] rfl rfl rfl (hpl) rfl) rfl rfl ?_; rintro _ _ ⟨_, ⟨rfl, rfl⟩, rfl⟩
    refine JO_l (OL_buildSlice (cs := [.int .i64 word]) rfl rfl rfl rfl rfl rfl rfl rfl) rfl rfl ?_
    rintro _ _ ⟨bb, rfl, rfl⟩
    refine JO_l (OL_appendr (m := 1) rfl rfl rfl rfl rfl P2 ((Reads.blk rfl).src (.head _)) rfl rfl (fun _ h => by cases h) (by omega) (by omega) (by decide)) rfl rfl ?_
    rintro _ _ ⟨ta2, tc2, rfl, rfl⟩
    repeat' (first | (refine IsO ?_; first | refine JO_nil ?_ | (refine IsG ?_; first | refine G1 rfl rfl ?_ | refine G2 rfl ?_) | (refine IsMove ?_; first | refine M1 rfl rfl rfl ?_ | refine M2 rfl rfl rfl ?_ | refine M3 rfl rfl rfl ?_ | refine M4 rfl rfl rfl ?_ | refine M5 rfl rfl rfl (fun _ => ?_) (fun _ => ?_) | refine M6 rfl rfl rfl (fun _ => ?_) (fun _ => ?_)) | (refine IsBin ?_; first | refine B1 rfl rfl rfl rfl ?_ | refine B2 rfl rfl rfl rfl ?_ | refine B3 rfl rfl rfl rfl ?_ | refine B4 rfl rfl rfl rfl ?_ | refine B5 rfl rfl rfl rfl ?_ | refine B6 rfl rfl rfl rfl ?_ | refine B7 rfl rfl rfl rfl rfl ?_ | refine B8 rfl rfl rfl rfl rfl ?_ | refine B9 rfl rfl rfl rfl rfl rfl rfl ?_ | refine BA rfl rfl rfl rfl rfl rfl rfl ?_) | (refine IsConv ?_; refine C1 rfl rfl rfl rfl rfl ?_) | (refine IsLoad ?_; first | refine L1 rfl rfl rfl rfl ?_ | refine L2 rfl rfl rfl rfl rfl ?_) | (refine IsStore ?_; refine S1 rfl rfl rfl rfl rfl rfl rfl (fun _ => ?_)) | (refine IsBox ?_; refine N1 rfl rfl rfl rfl (fun _ => ?_)) | (refine IsAlloc ?_; refine N2 rfl rfl rfl rfl (fun _ => ?_)) | (refine IsBuild ?_; refine U1 rfl rfl rfl rfl rfl rfl ?_) | refine V1 rfl rfl rfl ?_) | (refine IsAt ?_; first | (with_reducible first | refine T1 ?_ | refine T2 ?_ | refine T3 ?_ | refine T4 ?_ | refine T5 ?_ | refine T6 ?_ | refine T7 ?_ | refine T8 ?_ | refine T9 ?_ | refine TA ?_ | refine TB ?_ | refine TC ?_) | ((with_reducible show At _ (PBlock _ _ (Exit.exit _)) _ _); first | refine At_block_hit ?_ | refine At_block_miss rfl ?_)) | (refine IsJ ?_; first | refine J_seq ?_ | refine J_region ?_ | refine J_block ?_ | refine J_skip ?_ | refine J_ret ?_ | refine J_exit ?_ | (refine IsCond ?_; first | refine J_cond_t rfl ?_ | refine J_cond_f rfl ?_ | refine K1 rfl ?_ | refine K2 rfl ?_ | refine K3 rfl ?_ | refine K4 rfl ?_ | refine J_cb rfl (fun _ => ?_) (fun _ => ?_) | refine J_nb rfl (fun _ => ?_) (fun _ => ?_))))
    refine At_round (k + 1, ta2, tc2) (by show rs.length - (k + 1) < rs.length - k; omega) (by show k + 1 ≤ rs.length; omega) (by repeat (first | exact True.intro | refine And.intro rfl ?_)) ?_
    intro H hl
    dsimp only
    rw [hnx]
    exact hl.pick (is := [0, 1, 1, 1, 1, 1, 1, 1, 1, 1]) rfl
  obtain rfl : k = rs.length := by omega
  rw [List.take_length]
  repeat' (first | (refine IsO ?_; first | refine JO_nil ?_ | (refine IsG ?_; first | refine G1 rfl rfl ?_ | refine G2 rfl ?_) | (refine IsMove ?_; first | refine M1 rfl rfl rfl ?_ | refine M2 rfl rfl rfl ?_ | refine M3 rfl rfl rfl ?_ | refine M4 rfl rfl rfl ?_ | refine M5 rfl rfl rfl (fun _ => ?_) (fun _ => ?_) | refine M6 rfl rfl rfl (fun _ => ?_) (fun _ => ?_)) | (refine IsBin ?_; first | refine B1 rfl rfl rfl rfl ?_ | refine B2 rfl rfl rfl rfl ?_ | refine B3 rfl rfl rfl rfl ?_ | refine B4 rfl rfl rfl rfl ?_ | refine B5 rfl rfl rfl rfl ?_ | refine B6 rfl rfl rfl rfl ?_ | refine B7 rfl rfl rfl rfl rfl ?_ | refine B8 rfl rfl rfl rfl rfl ?_ | refine B9 rfl rfl rfl rfl rfl rfl rfl ?_ | refine BA rfl rfl rfl rfl rfl rfl rfl ?_) | (refine IsConv ?_; refine C1 rfl rfl rfl rfl rfl ?_) | (refine IsLoad ?_; first | refine L1 rfl rfl rfl rfl ?_ | refine L2 rfl rfl rfl rfl rfl ?_) | (refine IsStore ?_; refine S1 rfl rfl rfl rfl rfl rfl rfl (fun _ => ?_)) | (refine IsBox ?_; refine N1 rfl rfl rfl rfl (fun _ => ?_)) | (refine IsAlloc ?_; refine N2 rfl rfl rfl rfl (fun _ => ?_)) | (refine IsBuild ?_; refine U1 rfl rfl rfl rfl rfl rfl ?_) | refine V1 rfl rfl rfl ?_) | (refine IsAt ?_; first | (with_reducible first | refine T1 ?_ | refine T2 ?_ | refine T3 ?_ | refine T4 ?_ | refine T5 ?_ | refine T6 ?_ | refine T7 ?_ | refine T8 ?_ | refine T9 ?_ | refine TA ?_ | refine TB ?_ | refine TC ?_) | ((with_reducible show At _ (PBlock _ _ (Exit.exit _)) _ _); first | refine At_block_hit ?_ | refine At_block_miss rfl ?_)) | (refine IsJ ?_; first | refine J_seq ?_ | refine J_region ?_ | refine J_block ?_ | refine J_skip ?_ | refine J_ret ?_ | refine J_exit ?_ | (refine IsCond ?_; first | refine J_cond_t rfl ?_ | refine J_cond_f rfl ?_ | refine K1 rfl ?_ | refine K2 rfl ?_ | refine K3 rfl ?_ | refine K4 rfl ?_ | refine J_cb rfl (fun _ => ?_) (fun _ => ?_) | refine J_nb rfl (fun _ => ?_) (fun _ => ?_))))
  refine J_draw [0, 0, 1, 0, 0, 2] (List.range 6) (by kernel_rfl) (by kernel_rfl) ?_
  repeat' (refine IsX ?_; first | (refine JX_nil ?_; refine At_np ?_) | (refine JX_op rfl ?_; refine XsO ?_; first | (refine XsG ?_; refine XG1 rfl rfl rfl ?_) | (refine XsMove ?_; first | refine XM1 rfl rfl rfl rfl ?_ | refine XM2 rfl rfl rfl rfl ?_ | refine XM3 rfl rfl rfl rfl ?_ | refine XM4 rfl rfl rfl rfl ?_ | refine XM5 rfl rfl rfl rfl (fun _ => ?_) (fun _ => ?_) | refine XM6 rfl rfl rfl rfl (fun _ => ?_) (fun _ => ?_)) | (refine XsBin ?_; first | refine XB1 rfl rfl rfl rfl rfl ?_ | refine XB2 rfl rfl rfl rfl rfl ?_ | refine XB3 rfl rfl rfl rfl rfl ?_ | refine XB4 rfl rfl rfl rfl rfl ?_ | refine XB5 rfl rfl rfl rfl rfl ?_ | refine XB6 rfl rfl rfl rfl rfl ?_ | refine XB7 rfl rfl rfl rfl rfl rfl ?_ | refine XB8 rfl rfl rfl rfl rfl rfl ?_ | refine XB9 rfl rfl rfl rfl rfl rfl rfl rfl ?_ | refine XBA rfl rfl rfl rfl rfl rfl rfl rfl ?_) | (refine XsConv ?_; refine XC1 rfl rfl rfl rfl rfl rfl ?_) | (refine XsLoad ?_; first | refine XL1k rfl rfl rfl rfl rfl ?_ | refine XL2k rfl rfl rfl rfl rfl rfl ?_ | refine XL1 rfl rfl rfl rfl rfl ?_ | refine XL2 rfl rfl rfl rfl rfl rfl ?_) | (refine XsStore ?_; refine XS1 rfl rfl rfl rfl rfl rfl rfl rfl (fun _ => ?_)) | (refine XsBox ?_; refine XN1 rfl rfl rfl rfl rfl (fun _ => ?_)) | (refine XsAlloc ?_; refine XN2 rfl rfl rfl rfl rfl (fun _ => ?_)) | (refine XsBuild ?_; refine XU1 rfl rfl rfl rfl rfl rfl rfl ?_) | refine XV1 rfl rfl rfl rfl ?_))
  refine JX_l0 rfl rfl (OL_store rfl rfl rfl rfl rfl rfl (i := 8) rfl (by rfl)) rfl ?_
  rintro _ _ rfl
  repeat' (refine IsX ?_; first | (refine JX_nil ?_; refine At_np ?_) | (refine JX_op rfl ?_; refine XsO ?_; first | (refine XsG ?_; refine XG1 rfl rfl rfl ?_) | (refine XsMove ?_; first | refine XM1 rfl rfl rfl rfl ?_ | refine XM2 rfl rfl rfl rfl ?_ | refine XM3 rfl rfl rfl rfl ?_ | refine XM4 rfl rfl rfl rfl ?_ | refine XM5 rfl rfl rfl rfl (fun _ => ?_) (fun _ => ?_) | refine XM6 rfl rfl rfl rfl (fun _ => ?_) (fun _ => ?_)) | (refine XsBin ?_; first | refine XB1 rfl rfl rfl rfl rfl ?_ | refine XB2 rfl rfl rfl rfl rfl ?_ | refine XB3 rfl rfl rfl rfl rfl ?_ | refine XB4 rfl rfl rfl rfl rfl ?_ | refine XB5 rfl rfl rfl rfl rfl ?_ | refine XB6 rfl rfl rfl rfl rfl ?_ | refine XB7 rfl rfl rfl rfl rfl rfl ?_ | refine XB8 rfl rfl rfl rfl rfl rfl ?_ | refine XB9 rfl rfl rfl rfl rfl rfl rfl rfl ?_ | refine XBA rfl rfl rfl rfl rfl rfl rfl rfl ?_) | (refine XsConv ?_; refine XC1 rfl rfl rfl rfl rfl rfl ?_) | (refine XsLoad ?_; first | refine XL1k rfl rfl rfl rfl rfl ?_ | refine XL2k rfl rfl rfl rfl rfl rfl ?_ | refine XL1 rfl rfl rfl rfl rfl ?_ | refine XL2 rfl rfl rfl rfl rfl rfl ?_) | (refine XsStore ?_; refine XS1 rfl rfl rfl rfl rfl rfl rfl rfl (fun _ => ?_)) | (refine XsBox ?_; refine XN1 rfl rfl rfl rfl rfl (fun _ => ?_)) | (refine XsAlloc ?_; refine XN2 rfl rfl rfl rfl rfl (fun _ => ?_)) | (refine XsBuild ?_; refine XU1 rfl rfl rfl rfl rfl rfl rfl ?_) | refine XV1 rfl rfl rfl rfl ?_))
  repeat' (first | (refine IsO ?_; first | refine JO_nil ?_ | (refine IsG ?_; first | refine G1 rfl rfl ?_ | refine G2 rfl ?_) | (refine IsMove ?_; first | refine M1 rfl rfl rfl ?_ | refine M2 rfl rfl rfl ?_ | refine M3 rfl rfl rfl ?_ | refine M4 rfl rfl rfl ?_ | refine M5 rfl rfl rfl (fun _ => ?_) (fun _ => ?_) | refine M6 rfl rfl rfl (fun _ => ?_) (fun _ => ?_)) | (refine IsBin ?_; first | refine B1 rfl rfl rfl rfl ?_ | refine B2 rfl rfl rfl rfl ?_ | refine B3 rfl rfl rfl rfl ?_ | refine B4 rfl rfl rfl rfl ?_ | refine B5 rfl rfl rfl rfl ?_ | refine B6 rfl rfl rfl rfl ?_ | refine B7 rfl rfl rfl rfl rfl ?_ | refine B8 rfl rfl rfl rfl rfl ?_ | refine B9 rfl rfl rfl rfl rfl rfl rfl ?_ | refine BA rfl rfl rfl rfl rfl rfl rfl ?_) | (refine IsConv ?_; refine C1 rfl rfl rfl rfl rfl ?_) | (refine IsLoad ?_; first | refine L1 rfl rfl rfl rfl ?_ | refine L2 rfl rfl rfl rfl rfl ?_) | (refine IsStore ?_; refine S1 rfl rfl rfl rfl rfl rfl rfl (fun _ => ?_)) | (refine IsBox ?_; refine N1 rfl rfl rfl rfl (fun _ => ?_)) | (refine IsAlloc ?_; refine N2 rfl rfl rfl rfl (fun _ => ?_)) | (refine IsBuild ?_; refine U1 rfl rfl rfl rfl rfl rfl ?_) | refine V1 rfl rfl rfl ?_) | (refine IsAt ?_; first | (with_reducible first | refine T1 ?_ | refine T2 ?_ | refine T3 ?_ | refine T4 ?_ | refine T5 ?_ | refine T6 ?_ | refine T7 ?_ | refine T8 ?_ | refine T9 ?_ | refine TA ?_ | refine TB ?_ | refine TC ?_) | ((with_reducible show At _ (PBlock _ _ (Exit.exit _)) _ _); first | refine At_block_hit ?_ | refine At_block_miss rfl ?_)) | (refine IsJ ?_; first | refine J_seq ?_ | refine J_region ?_ | refine J_block ?_ | refine J_skip ?_ | refine J_ret ?_ | refine J_exit ?_ | (refine IsCond ?_; first | refine J_cond_t rfl ?_ | refine J_cond_f rfl ?_ | refine K1 rfl ?_ | refine K2 rfl ?_ | refine K3 rfl ?_ | refine K4 rfl ?_ | refine J_cb rfl (fun _ => ?_) (fun _ => ?_) | refine J_nb rfl (fun _ => ?_) (fun _ => ?_))))
  exact At_ret rfl rfl (.tmp rfl (.tmp rfl (.agg rfl rfl rfl (by repeat (first | exact .head _ | refine .tail _ ?_)) rfl .nil))) rfl (is := [4, 4, 4, 4, 4, 1, 3]) rfl ⟨p, bw, bs, n, s.T, ws, st, a, cap, os, ra, rc, hB, rfl, rfl, rfl, rfl⟩
end Go.Proofs.Ytahfnbpbdnmggaa
/-
  Our own, over any program: operations on 64-bit words: shifts, and, or.
-/
set_option linter.unusedVariables false
set_option linter.unusedSimpArgs false
namespace Go.Sep
open Go.RowKit
section ops
variable {C : Ctx} {g : Regs} {t t' : TypeId} {x y : Operand} {a b n : Nat}
theorem OV_binr {op : BinOp} {k k' : IntKind} {m q : Int} {v : Value} (hx : ev g x = some (.int k m)) (hy : ev g y = some (.int k' q)) (h : ∀ w, (binOp op t (.int k m) (.int k' q)).run C.P w = .ok v w) : OpV C g (.binOp op t x y t') v := by
  refine ⟨(by intro c h; cases h), fun d ty pos af gd ac w hf => ?_⟩
  simp only [execOp, hf.ev hx, hf.ev hy]
  rw [Sem.run_bind, run_guarded (h w)]
  rfl
theorem OV_shrU {k : IntKind} (hx : ev g x = some (.int .u64 (a : Int))) (hy : ev g y = some (.int k (n : Int))) (hn : n ≤ 64) : OpV C g (.binOp .shr t x y t') (.int .u64 ((a / 2 ^ n : Nat) : Int)) := by
  refine OV_binr hx hy fun w => ?_
  rw [binOp_shr, shift_shr_any _ _ _ _ (by omega)]
  have e : min ((n : Int)).toNat (IntKind.u64).bits = n := by
    show min ((n : Int)).toNat 64 = n
    omega
  rw [e]
  have e2 : (a : Int) / 2 ^ n = ((a / 2 ^ n : Nat) : Int) := by simp
  rw [e2]
  rfl
theorem OV_shlU {k : IntKind} (hx : ev g x = some (.int .u64 (a : Int))) (hy : ev g y = some (.int k (n : Int))) (hn : n ≤ 64) (hb : a * 2 ^ n < 18446744073709551616) : OpV C g (.binOp .shl t x y t') (.int .u64 ((a * 2 ^ n : Nat) : Int)) := by
  refine OV_binr hx hy fun w => ?_
  rw [binOp_shl, shift_shl_any _ _ _ _ (by omega)]
  have e : min ((n : Int)).toNat (IntKind.u64).bits = n := by
    show min ((n : Int)).toNat 64 = n
    omega
  rw [e]
  have e2 : (a : Int) * 2 ^ n = ((a * 2 ^ n : Nat) : Int) := by simp
  rw [e2, IntKind.wrap_u64]
  have e3 : ((a * 2 ^ n : Nat) : Int) % 18446744073709551616 = ((a * 2 ^ n : Nat) : Int) := Int.emod_eq_of_lt (by omega) (by omega)
  rw [e3]
  rfl
theorem OV_andU (hx : ev g x = some (.int .u64 (a : Int))) (hy : ev g y = some (.int .u64 (b : Int))) (ha : a < 18446744073709551616) (hb : b < 18446744073709551616) : OpV C g (.binOp .and t x y t') (.int .u64 ((a &&& b : Nat) : Int)) := by
  refine OV_binr hx hy fun w => ?_
  rw [← bits_and_u64_nat a b ha hb]
  simp [binOp, Op.intBits, Pure.pure, Sem.run, bits]
theorem OV_orU (hx : ev g x = some (.int .u64 (a : Int))) (hy : ev g y = some (.int .u64 (b : Int))) (ha : a < 18446744073709551616) (hb : b < 18446744073709551616) : OpV C g (.binOp .or t x y t') (.int .u64 ((a ||| b : Nat) : Int)) := by
  refine OV_binr hx hy fun w => ?_
  rw [← bits_or_u64_nat a b ha hb]
  simp [binOp, Op.intBits, Pure.pure, Sem.run, bits]
end ops
end Go.Sep
