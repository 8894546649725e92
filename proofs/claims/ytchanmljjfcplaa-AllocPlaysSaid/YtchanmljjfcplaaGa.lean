/-
  Our own: the document's heaps (besomref01): objects that a list holds, what they own; Find, Top, Leads.
-/
import Derived.Test.YtchanmljjfcplaaJq
import Derived.Test.YtchanmljjfcplaaHz
import Derived.Test.YtchanmljjfcplaaRh
import Derived.Test.YtchanmljjfcplaaJp
set_option linter.unusedVariables false
set_option linter.unusedSimpArgs false
namespace Go.Proofs.Ytchanmljjfcplaa
open Go.Sep
/-- An object of the document's: its address, its kind and how many references, its words, and where they lie. -/
structure RO where
  i : Nat
  k : Int
  p : Int
  ws : List Int
  wa : Option Addr
  wc : Nat
abbrev cellsO (o : RO) : List Value := [.int .i64 o.i, .int .i64 o.k, .int .i64 o.ws.length, .int .i64 o.p, .slice o.wa o.ws.length o.wc]
abbrev rowO (o : RO) : HP := rowz 3 1 o.wa o.ws.length o.wc (intsV o.ws)
def RW (os : List RO) : HP := big (os.map rowO)
abbrev objsZ (a : Option Addr) (cap : Nat) (os : List RO) : HP := rowz 48 5 a os.length cap (os.flatMap cellsO)
abbrev refL (a : Option Addr) (cap : Nat) (os : List RO) : List HP := [objsZ a cap os, RW os]
abbrev refV (size : Int) (a : Option Addr) (n cap : Nat) : Value := .agg #[.int .i64 size, .slice a n cap]
def okW (os : List RO) : Prop := ∀ o ∈ os, o.wa = none → o.ws.length = 0 ∧ o.wc = 0
theorem one_star {p : HP} {h H : PH} (s : Sub h H) (k : p h) : Stars [p] H := ⟨h, fun _ => none, fun _ => .inr rfl, s, (fun _ _ e => by cases e), k, trivial⟩
theorem rowz_none {T sz m cap : Nat} {cs : List Value} {h : PH} (k : rowz T sz none m cap cs h) : m = 0 ∧ cap = 0 := by
  rcases k with ⟨h1, h2, _⟩ | ⟨_, h1, h2, _⟩ | ⟨b, pre, sp, e, _⟩
  · exact ⟨h1, h2⟩
  · exact ⟨h1, h2⟩
  · cases e
theorem RW_ok {W w : World} {l : List HP} {os : List RO} (hs : Sat W l w) (hm : RW os ∈ l) : okW os := by
  intro o ho hn
  obtain ⟨h1, s1, k1⟩ := hs.stars.mem hm
  obtain ⟨h2, s2, k2⟩ := Stars.mem (l := os.map rowO) k1 (List.mem_map_of_mem (f := rowO) ho)
  have k3 : rowz 3 1 o.wa o.ws.length o.wc (intsV o.ws) h2 := k2
  rw [hn] at k3
  exact rowz_none k3
theorem RW.reads {os : List RO} {o : RO} (ho : o ∈ os) (ok : okW os) : Reads (RW os) 1 o.ws.length o.wa o.wc (intsV o.ws) := by
  have hr : Reads (rowO o) 1 o.ws.length o.wa o.wc (intsV o.ws) := Reads.rowz (by simp) (ok o ho)
  refine ⟨by simp, ok o ho, fun W l w hs hm i hi => ?_⟩
  obtain ⟨h1, s1, k1⟩ := hs.stars.mem hm
  obtain ⟨h2, s2, k2⟩ := Stars.mem (l := os.map rowO) k1 (List.mem_map_of_mem (f := rowO) ho)
  exact hr.cell W [rowO o] w ⟨hs.os, hs.tape, hs.output, one_star (s2.trans s1) k2⟩ (.head _) i hi
/-- New words' rows in, those that nothing holds any more out. -/
theorem RW.to {news os os' dr : List RO} {l : List HP} {H : PH} (h : (news ++ os).Perm (os' ++ dr)) (hs : Stars (news.map rowO ++ RW os :: l) H) : Stars (RW os' :: l) H := by
  have h1 : Stars (big (os.map rowO) :: (news.map rowO ++ l)) H := hs.perm List.perm_middle
  have h2 := h1.open
  have h3 : Stars (os'.map rowO ++ (dr.map rowO ++ l)) H := by
    refine h2.perm ?_
    rw [← List.append_assoc, ← List.append_assoc, ← List.map_append, ← List.map_append]
    exact ((List.perm_append_comm.trans h).map rowO).append_right _
  obtain ⟨a, b, ap, s1, s2, p1, p2⟩ := h3.app
  exact (Stars.unapp ap s1 s2 p1 p2.right).shut
theorem objs_get {os : List RO} {j : Nat} {o : RO} (h : os[j]? = some o) {r : Nat} (hr : r < 5) : (os.flatMap cellsO)[j * 5 + r]? = (cellsO o)[r]? := flat_get (f := cellsO) (fun _ _ => rfl) h hr
theorem objs_take {os : List RO} {j : Nat} {o : RO} (h : os[j]? = some o) : takeL (os.flatMap cellsO) (j * 5) 5 = some (cellsO o) := flat_take (f := cellsO) (fun _ _ => rfl) h
theorem objs_len {os : List RO} : (os.flatMap cellsO).length = os.length * 5 := flat_len (f := cellsO) (fun _ _ => rfl)

/-- Objects that lie in words one behind the other, from i up to T. -/
def Ch (ws : List Int) : Nat → List RO → Nat → Prop
  | i, [], T => i = T
  | i, o :: r, T => o.i = i ∧ goodB o.k o.ws.length o.p = true ∧ ws[i]? = some (packI o.k o.ws.length o.p) ∧ (∀ j : Nat, j < o.ws.length → ws[i + 1 + j]? = o.ws[j]?) ∧ Ch ws (i + 1 + o.ws.length) r T
theorem Ch.le {ws : List Int} : ∀ {os : List RO} {i T : Nat}, Ch ws i os T → i ≤ T
  | [], i, T, h => Nat.le_of_eq h
  | o :: r, i, T, h => by have := Ch.le h.2.2.2.2; omega
theorem Ch.len {ws : List Int} : ∀ {os : List RO} {i T : Nat}, Ch ws i os T → i + os.length ≤ T
  | [], i, T, h => Nat.le_of_eq h
  | o :: r, i, T, h => by have := Ch.len h.2.2.2.2; simp; omega
theorem Ch.app {ws : List Int} {b : List RO} {T : Nat} : ∀ {a : List RO} {i : Nat}, Ch ws i (a ++ b) T ↔ ∃ m, Ch ws i a m ∧ Ch ws m b T
  | [], i => ⟨fun h => ⟨i, rfl, h⟩, fun ⟨m, h1, h2⟩ => by cases h1; exact h2⟩
  | o :: r, i => by
    constructor
    · rintro ⟨h1, h2, h3, h4, h5⟩
      obtain ⟨m, k1, k2⟩ := Ch.app.1 h5
      exact ⟨m, ⟨h1, h2, h3, h4, k1⟩, k2⟩
    · rintro ⟨m, ⟨h1, h2, h3, h4, h5⟩, k⟩
      exact ⟨h1, h2, h3, h4, Ch.app.2 ⟨m, h5, k⟩⟩
theorem Ch.keep {ws ws' : List Int} : ∀ {os : List RO} {i T : Nat}, Ch ws i os T → (∀ j, i ≤ j → j < T → ws'[j]? = ws[j]?) → Ch ws' i os T
  | [], i, T, h, _ => h
  | o :: r, i, T, ⟨h1, h2, h3, h4, h5⟩, k => by
    have := h5.le
    exact ⟨h1, h2, by rw [k i (Nat.le_refl _) (by omega)]; exact h3, fun j hj => by rw [k _ (by omega) (by omega)]; exact h4 j hj, h5.keep fun j a b => k j (by omega) b⟩
/-- The j-th of them. -/
theorem Ch.at {ws : List Int} {os : List RO} {i T j : Nat} {o : RO} (h : Ch ws i os T) (hj : os[j]? = some o) : Ch ws i (os.take j) o.i ∧ Ch ws o.i (o :: os.drop (j + 1)) T := by
  have hlt : j < os.length := (List.getElem?_eq_some_iff.1 hj).1
  have e : os = os.take j ++ o :: os.drop (j + 1) := by
    conv => lhs; rw [← List.take_append_drop j os]
    rw [List.drop_eq_getElem_cons hlt]
    rw [List.getElem?_eq_getElem hlt] at hj
    injection hj with hj
    rw [hj]
  rw [e] at h
  obtain ⟨m, h1, h2⟩ := Ch.app.1 h
  obtain rfl := h2.1
  exact ⟨h1, h2⟩
theorem Ch.end_ {ws : List Int} {os : List RO} {i T j : Nat} {o : RO} (h : Ch ws i os T) (hj : os[j]? = some o) : Ch ws i (os.take (j + 1)) (o.i + 1 + o.ws.length) := by
  obtain ⟨h1, h2⟩ := h.at hj
  have hlt : j < os.length := (List.getElem?_eq_some_iff.1 hj).1
  rw [List.getElem?_eq_getElem hlt] at hj
  injection hj with hj
  rw [List.take_add_one, List.getElem?_eq_getElem hlt, hj, Option.toList_some]
  exact Ch.app.2 ⟨o.i, h1, rfl, h2.2.1, h2.2.2.1, h2.2.2.2.1, rfl⟩
def findR (os : List RO) (x r : Int) : Prop := (∃ (j : Nat) (o : RO), r = j ∧ os[j]? = some o ∧ (o.i : Int) = x) ∨ (r = -1 ∧ ∀ o ∈ os, (o.i : Int) ≠ x)
/-- Where the q-th of them begins. -/
def posAt (os : List RO) (T q : Nat) : Nat := match os[q]? with | some o => o.i | none => T
theorem Ch.pos0 {ws : List Int} {os : List RO} {i T : Nat} (h : Ch ws i os T) : posAt os T 0 = i := by
  cases os with
  | nil => exact h.symm
  | cons o r => exact h.1
theorem posAt_of {os : List RO} {T q : Nat} {o : RO} (h : os[q]? = some o) : posAt os T q = o.i := by unfold posAt; rw [h]
theorem posAt_end {os : List RO} {T : Nat} : posAt os T os.length = T := by unfold posAt; rw [List.getElem?_eq_none (Nat.le_refl _)]
theorem Ch.pos_le {ws : List Int} {os : List RO} {i T : Nat} (h : Ch ws i os T) (q : Nat) : posAt os T q ≤ T := by
  unfold posAt
  split
  · rename_i o ho
    have := (h.at ho).2.le
    exact this
  · exact Nat.le_refl _
theorem Ch.pos {ws : List Int} {os : List RO} {i T q : Nat} {o : RO} (h : Ch ws i os T) (hq : os[q]? = some o) : posAt os T (q + 1) = o.i + 1 + o.ws.length := by
  have h2 := (h.at hq).2.2.2.2.2.pos0
  rw [← h2]
  unfold posAt
  rw [List.getElem?_drop]
section starts
variable {n T : Nat} {ws : List Int} {st : List Bool}
theorem Ch.start (h : HT n T ws st) : ∀ {os : List RO} {i : Nat}, Ch ws i os T → (i = T ∨ st[i]? = some true) → ∀ o ∈ os, st[o.i]? = some true
  | [], i, _, _ => fun o ho => by cases ho
  | o :: r, i, ⟨h1, h2, h3, h4, h5⟩, hi => by
    have hle := h5.le
    have hs : st[i]? = some true := by
      rcases hi with e | e
      · omega
      · exact e
    obtain ⟨w, b1, b2, b3, b4, b5⟩ := h.obj i hs
    rw [h3] at b1; injection b1 with b1; subst b1
    rw [(packI_un h2).2.2.2.1, Int.toNat_natCast] at b4
    intro o' ho
    rcases List.mem_cons.1 ho with rfl | ho
    · rw [h1]; exact hs
    · exact Ch.start h h5 b4 o' ho
theorem Ch.find (h : HT n T ws st) : ∀ {os : List RO} {i : Nat}, Ch ws i os T → (i = T ∨ st[i]? = some true) → ∀ q, i ≤ q → st[q]? = some true → ∃ o ∈ os, o.i = q
  | [], i, hc, _ => fun q hq hs => by
    have := h.lt hs
    have : i = T := hc
    omega
  | o :: r, i, ⟨h1, h2, h3, h4, h5⟩, hi => fun q hq hs => by
    have hle := h5.le
    have hsi : st[i]? = some true := by
      rcases hi with e | e
      · omega
      · exact e
    obtain ⟨w, b1, b2, b3, b4, b5⟩ := h.obj i hsi
    rw [h3] at b1; injection b1 with b1; subst b1
    rw [(packI_un h2).2.2.2.1, Int.toNat_natCast] at b4 b5
    by_cases e : q = i
    · exact ⟨o, .head _, by omega⟩
    · by_cases e2 : q < i + 1 + o.ws.length
      · exact absurd hs (b5 q (by omega) e2)
      · obtain ⟨o', ho', e'⟩ := Ch.find h h5 b4 q (by omega) hs
        exact ⟨o', .tail _ ho', e'⟩
theorem findR_some {os : List RO} {x : Int} {j : Nat} {o : RO} (h : HT n T ws st) (hc : Ch ws 0 os T) (hj : os[j]? = some o) : isObj st o.i ∧ ws[o.i]? = some (packI o.k o.ws.length o.p) ∧ goodB o.k o.ws.length o.p = true ∧ o.i + 1 + o.ws.length ≤ T ∧ ∀ q : Nat, q < o.ws.length → ws[o.i + 1 + q]? = o.ws[q]? := by
  have h2 := (hc.at hj).2
  exact ⟨⟨by omega, by rw [Int.toNat_natCast]; exact Ch.start h hc (h.zero.imp (fun e => e.symm) id) o (List.mem_of_getElem? hj)⟩, h2.2.2.1, h2.2.1, h2.2.2.2.2.le, h2.2.2.2.1⟩
theorem findR_none {os : List RO} {x : Int} (h : HT n T ws st) (hc : Ch ws 0 os T) (hx : ∀ o ∈ os, (o.i : Int) ≠ x) : ¬ isObj st x := by
  rintro ⟨h0, hs⟩
  obtain ⟨o, ho, e⟩ := Ch.find h hc (h.zero.imp (fun e => e.symm) id) _ (Nat.zero_le _) hs
  exact hx o ho (by omega)
end starts
section ops
variable {a : Option Addr} {cap : Nat} {os : List RO}
set_option maxHeartbeats 4000000 in
theorem Find_spec (size x : Int) (hb : os.length ≤ 65536) : Does Try.prog 47 [refV size a os.length cap, .int .i64 x] (refL a cap os)
    (fun v l => ∃ r : Int, findR os x r ∧ v = .int .i64 r ∧ l = refL a cap os) := by
  refine Does.of tiok Try.func47 (by kernel_rfl) rfl Try.ntmps47 rfl ?_
  intro W fr
  refine J_rowzf P0 ?_
  rintro ⟨hl, hn, hc⟩
  have hR : Reads (objsZ a cap os) 5 os.length a cap (os.flatMap cellsO) := Reads.rowz hl hn
  repeat' (first | (refine IsO ?_; first | refine JO_nil ?_ | (refine IsG ?_; first | refine G1 rfl rfl ?_ | refine G2 rfl ?_) | (refine IsMove ?_; first | refine M1 rfl rfl rfl ?_ | refine M2 rfl rfl rfl ?_ | refine M3 rfl rfl rfl ?_ | refine M4 rfl rfl rfl ?_ | refine M5 rfl rfl rfl (fun _ => ?_) (fun _ => ?_) | refine M6 rfl rfl rfl (fun _ => ?_) (fun _ => ?_)) | (refine IsBin ?_; first | refine B1 rfl rfl rfl rfl ?_ | refine B2 rfl rfl rfl rfl ?_ | refine B3 rfl rfl rfl rfl ?_ | refine B4 rfl rfl rfl rfl ?_ | refine B5 rfl rfl rfl rfl ?_ | refine B6 rfl rfl rfl rfl ?_ | refine B7 rfl rfl rfl rfl rfl ?_ | refine B8 rfl rfl rfl rfl rfl ?_ | refine B9 rfl rfl rfl rfl rfl rfl rfl ?_ | refine BA rfl rfl rfl rfl rfl rfl rfl ?_) | (refine IsConv ?_; refine C1 rfl rfl rfl rfl rfl ?_) | (refine IsLoad ?_; first | refine L1 rfl rfl rfl rfl ?_ | refine L2 rfl rfl rfl rfl rfl ?_) | (refine IsStore ?_; refine S1 rfl rfl rfl rfl rfl rfl rfl (fun _ => ?_)) | (refine IsBox ?_; refine N1 rfl rfl rfl rfl (fun _ => ?_)) | (refine IsAlloc ?_; refine N2 rfl rfl rfl rfl (fun _ => ?_)) | (refine IsBuild ?_; refine U1 rfl rfl rfl rfl rfl rfl ?_) | refine V1 rfl rfl rfl ?_) | (refine IsAt ?_; first | (with_reducible first | refine T1 ?_ | refine T2 ?_ | refine T3 ?_ | refine T4 ?_ | refine T5 ?_ | refine T6 ?_ | refine T7 ?_ | refine T8 ?_ | refine T9 ?_ | refine TA ?_ | refine TB ?_ | refine TC ?_) | ((with_reducible show At _ (PBlock _ _ (Exit.exit _)) _ _); first | refine At_block_hit ?_ | refine At_block_miss rfl ?_)) | (refine IsJ ?_; first | refine J_seq ?_ | refine J_region ?_ | refine J_block ?_ | refine J_skip ?_ | refine J_ret ?_ | refine J_exit ?_ | (refine IsCond ?_; first | refine J_cond_t rfl ?_ | refine J_cond_f rfl ?_ | refine K1 rfl ?_ | refine K2 rfl ?_ | refine K3 rfl ?_ | refine K4 rfl ?_ | refine J_cb rfl (fun _ => ?_) (fun _ => ?_) | refine J_nb rfl (fun _ => ?_) (fun _ => ?_))))
  rename_i bx
  refine J_loop (α := Nat) (fun q => q ≤ os.length ∧ ∀ (j : Nat) (o : RO), j < q → os[j]? = some o → (o.i : Int) ≠ x)
    (fun q => [(1, .int .i64 x), (2, ptr bx 0), (8, .int .i64 os.length), (9, .int .i64 q)])
    (fun q => blk bx [.int .i64 size, .slice a os.length cap] 33 :: refL a cap os) (fun q => os.length - q) 0 ⟨Nat.zero_le _, fun j o hj => absurd hj (Nat.not_lt_zero _)⟩ (by repeat (first | exact True.intro | refine And.intro rfl ?_)) (fun H hl => hl) ?_
  rintro q ⟨hq, hI⟩
  repeat' (first | (refine IsO ?_; first | refine JO_nil ?_ | (refine IsG ?_; first | refine G1 rfl rfl ?_ | refine G2 rfl ?_) | (refine IsMove ?_; first | refine M1 rfl rfl rfl ?_ | refine M2 rfl rfl rfl ?_ | refine M3 rfl rfl rfl ?_ | refine M4 rfl rfl rfl ?_ | refine M5 rfl rfl rfl (fun _ => ?_) (fun _ => ?_) | refine M6 rfl rfl rfl (fun _ => ?_) (fun _ => ?_)) | (refine IsBin ?_; first | refine B1 rfl rfl rfl rfl ?_ | refine B2 rfl rfl rfl rfl ?_ | refine B3 rfl rfl rfl rfl ?_ | refine B4 rfl rfl rfl rfl ?_ | refine B5 rfl rfl rfl rfl ?_ | refine B6 rfl rfl rfl rfl ?_ | refine B7 rfl rfl rfl rfl rfl ?_ | refine B8 rfl rfl rfl rfl rfl ?_ | refine B9 rfl rfl rfl rfl rfl rfl rfl ?_ | refine BA rfl rfl rfl rfl rfl rfl rfl ?_) | (refine IsConv ?_; refine C1 rfl rfl rfl rfl rfl ?_) | (refine IsLoad ?_; first | refine L1 rfl rfl rfl rfl ?_ | refine L2 rfl rfl rfl rfl rfl ?_) | (refine IsStore ?_; refine S1 rfl rfl rfl rfl rfl rfl rfl (fun _ => ?_)) | (refine IsBox ?_; refine N1 rfl rfl rfl rfl (fun _ => ?_)) | (refine IsAlloc ?_; refine N2 rfl rfl rfl rfl (fun _ => ?_)) | (refine IsBuild ?_; refine U1 rfl rfl rfl rfl rfl rfl ?_) | refine V1 rfl rfl rfl ?_) | (refine IsAt ?_; first | (with_reducible first | refine T1 ?_ | refine T2 ?_ | refine T3 ?_ | refine T4 ?_ | refine T5 ?_ | refine T6 ?_ | refine T7 ?_ | refine T8 ?_ | refine T9 ?_ | refine TA ?_ | refine TB ?_ | refine TC ?_) | ((with_reducible show At _ (PBlock _ _ (Exit.exit _)) _ _); first | refine At_block_hit ?_ | refine At_block_miss rfl ?_)) | (refine IsJ ?_; first | refine J_seq ?_ | refine J_region ?_ | refine J_block ?_ | refine J_skip ?_ | refine J_ret ?_ | refine J_exit ?_ | (refine IsCond ?_; first | refine J_cond_t rfl ?_ | refine J_cond_f rfl ?_ | refine K1 rfl ?_ | refine K2 rfl ?_ | refine K3 rfl ?_ | refine K4 rfl ?_ | refine J_cb rfl (fun _ => ?_) (fun _ => ?_) | refine J_nb rfl (fun _ => ?_) (fun _ => ?_))))
  · rename_i hlt
    have hlt' : q < os.length := by omega
    obtain ⟨o, ho⟩ : ∃ o, os[q]? = some o := ⟨os[q], List.getElem?_eq_getElem _⟩
    refine JO_fact _ (fun w hs => hR.some (by omega) hs (.tail _ (.head _))) ?_
    rintro ⟨b, of, rfl⟩
    refine JO_val (OV_idx (off := of + q * 5) rfl rfl rfl rfl (by omega) (by omega) (by simp)) rfl rfl ?_
    repeat' (first | (refine IsO ?_; first | refine JO_nil ?_ | (refine IsG ?_; first | refine G1 rfl rfl ?_ | refine G2 rfl ?_) | (refine IsMove ?_; first | refine M1 rfl rfl rfl ?_ | refine M2 rfl rfl rfl ?_ | refine M3 rfl rfl rfl ?_ | refine M4 rfl rfl rfl ?_ | refine M5 rfl rfl rfl (fun _ => ?_) (fun _ => ?_) | refine M6 rfl rfl rfl (fun _ => ?_) (fun _ => ?_)) | (refine IsBin ?_; first | refine B1 rfl rfl rfl rfl ?_ | refine B2 rfl rfl rfl rfl ?_ | refine B3 rfl rfl rfl rfl ?_ | refine B4 rfl rfl rfl rfl ?_ | refine B5 rfl rfl rfl rfl ?_ | refine B6 rfl rfl rfl rfl ?_ | refine B7 rfl rfl rfl rfl rfl ?_ | refine B8 rfl rfl rfl rfl rfl ?_ | refine B9 rfl rfl rfl rfl rfl rfl rfl ?_ | refine BA rfl rfl rfl rfl rfl rfl rfl ?_) | (refine IsConv ?_; refine C1 rfl rfl rfl rfl rfl ?_) | (refine IsLoad ?_; first | refine L1 rfl rfl rfl rfl ?_ | refine L2 rfl rfl rfl rfl rfl ?_) | (refine IsStore ?_; refine S1 rfl rfl rfl rfl rfl rfl rfl (fun _ => ?_)) | (refine IsBox ?_; refine N1 rfl rfl rfl rfl (fun _ => ?_)) | (refine IsAlloc ?_; refine N2 rfl rfl rfl rfl (fun _ => ?_)) | (refine IsBuild ?_; refine U1 rfl rfl rfl rfl rfl rfl ?_) | refine V1 rfl rfl rfl ?_) | (refine IsAt ?_; first | (with_reducible first | refine T1 ?_ | refine T2 ?_ | refine T3 ?_ | refine T4 ?_ | refine T5 ?_ | refine T6 ?_ | refine T7 ?_ | refine T8 ?_ | refine T9 ?_ | refine TA ?_ | refine TB ?_ | refine TC ?_) | ((with_reducible show At _ (PBlock _ _ (Exit.exit _)) _ _); first | refine At_block_hit ?_ | refine At_block_miss rfl ?_)) | (refine IsJ ?_; first | refine J_seq ?_ | refine J_region ?_ | refine J_block ?_ | refine J_skip ?_ | refine J_ret ?_ | refine J_exit ?_ | (refine IsCond ?_; first | refine J_cond_t rfl ?_ | refine J_cond_f rfl ?_ | refine K1 rfl ?_ | refine K2 rfl ?_ | refine K3 rfl ?_ | refine K4 rfl ?_ | refine J_cb rfl (fun _ => ?_) (fun _ => ?_) | refine J_nb rfl (fun _ => ?_) (fun _ => ?_))))
    refine JO_q (OQ_read (i := q * 5 + 0) (v := .int .i64 o.i) hR (.tail _ (.head _)) rfl rfl (by omega) (by rw [objs_get ho (by omega)]; rfl)) rfl rfl ?_
    repeat' (first | (refine IsO ?_; first | refine JO_nil ?_ | (refine IsG ?_; first | refine G1 rfl rfl ?_ | refine G2 rfl ?_) | (refine IsMove ?_; first | refine M1 rfl rfl rfl ?_ | refine M2 rfl rfl rfl ?_ | refine M3 rfl rfl rfl ?_ | refine M4 rfl rfl rfl ?_ | refine M5 rfl rfl rfl (fun _ => ?_) (fun _ => ?_) | refine M6 rfl rfl rfl (fun _ => ?_) (fun _ => ?_)) | (refine IsBin ?_; first | refine B1 rfl rfl rfl rfl ?_ | refine B2 rfl rfl rfl rfl ?_ | refine B3 rfl rfl rfl rfl ?_ | refine B4 rfl rfl rfl rfl ?_ | refine B5 rfl rfl rfl rfl ?_ | refine B6 rfl rfl rfl rfl ?_ | refine B7 rfl rfl rfl rfl rfl ?_ | refine B8 rfl rfl rfl rfl rfl ?_ | refine B9 rfl rfl rfl rfl rfl rfl rfl ?_ | refine BA rfl rfl rfl rfl rfl rfl rfl ?_) | (refine IsConv ?_; refine C1 rfl rfl rfl rfl rfl ?_) | (refine IsLoad ?_; first | refine L1 rfl rfl rfl rfl ?_ | refine L2 rfl rfl rfl rfl rfl ?_) | (refine IsStore ?_; refine S1 rfl rfl rfl rfl rfl rfl rfl (fun _ => ?_)) | (refine IsBox ?_; refine N1 rfl rfl rfl rfl (fun _ => ?_)) | (refine IsAlloc ?_; refine N2 rfl rfl rfl rfl (fun _ => ?_)) | (refine IsBuild ?_; refine U1 rfl rfl rfl rfl rfl rfl ?_) | refine V1 rfl rfl rfl ?_) | (refine IsAt ?_; first | (with_reducible first | refine T1 ?_ | refine T2 ?_ | refine T3 ?_ | refine T4 ?_ | refine T5 ?_ | refine T6 ?_ | refine T7 ?_ | refine T8 ?_ | refine T9 ?_ | refine TA ?_ | refine TB ?_ | refine TC ?_) | ((with_reducible show At _ (PBlock _ _ (Exit.exit _)) _ _); first | refine At_block_hit ?_ | refine At_block_miss rfl ?_)) | (refine IsJ ?_; first | refine J_seq ?_ | refine J_region ?_ | refine J_block ?_ | refine J_skip ?_ | refine J_ret ?_ | refine J_exit ?_ | (refine IsCond ?_; first | refine J_cond_t rfl ?_ | refine J_cond_f rfl ?_ | refine K1 rfl ?_ | refine K2 rfl ?_ | refine K3 rfl ?_ | refine K4 rfl ?_ | refine J_cb rfl (fun _ => ?_) (fun _ => ?_) | refine J_nb rfl (fun _ => ?_) (fun _ => ?_))))
    · rename_i he
      exact At_ret rfl rfl (.tmp rfl .nil) rfl (is := [1, 1]) rfl ⟨q, .inl ⟨q, o, rfl, ho, by omega⟩, rfl, rfl⟩
    · rename_i he
      refine At_round (q + 1) (by show os.length - (q + 1) < os.length - q; omega) ⟨by omega, fun j o' hj hj2 => ?_⟩ (by repeat (first | exact True.intro | refine And.intro rfl ?_)) (fun H hl => hl)
      by_cases e : j = q
      · subst e
        rw [ho] at hj2; injection hj2 with hj2; subst hj2
        omega
      · exact hI j o' (by omega) hj2
  · have hqq : q = os.length := by omega
    subst hqq
    refine At_ret rfl rfl (.tmp rfl .nil) rfl (is := [1, 1]) rfl ⟨-1, .inr ⟨rfl, fun o ho => ?_⟩, rfl, rfl⟩
    obtain ⟨j, hj⟩ := List.getElem?_of_mem ho
    exact hI j o (List.getElem?_eq_some_iff.1 hj).1 hj
set_option maxHeartbeats 4000000 in
theorem Top_spec {ws : List Int} {T : Nat} (size : Int) (h : Ch ws 0 os T) (hT : T ≤ 65536) : Does Try.prog 69 [refV size a os.length cap] (refL a cap os)
    (fun v l => v = .int .i64 T ∧ l = refL a cap os) := by
  have hlen := h.len
  refine Does.of tiok Try.func69 (by kernel_rfl) rfl Try.ntmps69 rfl ?_
  intro W fr
  refine J_rowzf P0 ?_
  rintro ⟨hl, hn, hc⟩
  have hR : Reads (objsZ a cap os) 5 os.length a cap (os.flatMap cellsO) := Reads.rowz hl hn
  repeat' (first | (refine IsO ?_; first | refine JO_nil ?_ | (refine IsG ?_; first | refine G1 rfl rfl ?_ | refine G2 rfl ?_) | (refine IsMove ?_; first | refine M1 rfl rfl rfl ?_ | refine M2 rfl rfl rfl ?_ | refine M3 rfl rfl rfl ?_ | refine M4 rfl rfl rfl ?_ | refine M5 rfl rfl rfl (fun _ => ?_) (fun _ => ?_) | refine M6 rfl rfl rfl (fun _ => ?_) (fun _ => ?_)) | (refine IsBin ?_; first | refine B1 rfl rfl rfl rfl ?_ | refine B2 rfl rfl rfl rfl ?_ | refine B3 rfl rfl rfl rfl ?_ | refine B4 rfl rfl rfl rfl ?_ | refine B5 rfl rfl rfl rfl ?_ | refine B6 rfl rfl rfl rfl ?_ | refine B7 rfl rfl rfl rfl rfl ?_ | refine B8 rfl rfl rfl rfl rfl ?_ | refine B9 rfl rfl rfl rfl rfl rfl rfl ?_ | refine BA rfl rfl rfl rfl rfl rfl rfl ?_) | (refine IsConv ?_; refine C1 rfl rfl rfl rfl rfl ?_) | (refine IsLoad ?_; first | refine L1 rfl rfl rfl rfl ?_ | refine L2 rfl rfl rfl rfl rfl ?_) | (refine IsStore ?_; refine S1 rfl rfl rfl rfl rfl rfl rfl (fun _ => ?_)) | (refine IsBox ?_; refine N1 rfl rfl rfl rfl (fun _ => ?_)) | (refine IsAlloc ?_; refine N2 rfl rfl rfl rfl (fun _ => ?_)) | (refine IsBuild ?_; refine U1 rfl rfl rfl rfl rfl rfl ?_) | refine V1 rfl rfl rfl ?_) | (refine IsAt ?_; first | (with_reducible first | refine T1 ?_ | refine T2 ?_ | refine T3 ?_ | refine T4 ?_ | refine T5 ?_ | refine T6 ?_ | refine T7 ?_ | refine T8 ?_ | refine T9 ?_ | refine TA ?_ | refine TB ?_ | refine TC ?_) | ((with_reducible show At _ (PBlock _ _ (Exit.exit _)) _ _); first | refine At_block_hit ?_ | refine At_block_miss rfl ?_)) | (refine IsJ ?_; first | refine J_seq ?_ | refine J_region ?_ | refine J_block ?_ | refine J_skip ?_ | refine J_ret ?_ | refine J_exit ?_ | (refine IsCond ?_; first | refine J_cond_t rfl ?_ | refine J_cond_f rfl ?_ | refine K1 rfl ?_ | refine K2 rfl ?_ | refine K3 rfl ?_ | refine K4 rfl ?_ | refine J_cb rfl (fun _ => ?_) (fun _ => ?_) | refine J_nb rfl (fun _ => ?_) (fun _ => ?_))))
  rename_i bx
  refine J_loop (α := Nat) (fun q => q ≤ os.length)
    (fun q => [(1, ptr bx 0), (3, .int .i64 (posAt os T q)), (7, .int .i64 os.length), (8, .int .i64 q)])
    (fun q => blk bx [.int .i64 size, .slice a os.length cap] 33 :: refL a cap os) (fun q => os.length - q) 0 (Nat.zero_le _) ?_ (fun H hl => hl) ?_
  · rw [h.pos0]; exact (by repeat (first | exact True.intro | refine And.intro rfl ?_))
  intro q hq
  have hpb := h.pos_le q
  repeat' (first | (refine IsO ?_; first | refine JO_nil ?_ | (refine IsG ?_; first | refine G1 rfl rfl ?_ | refine G2 rfl ?_) | (refine IsMove ?_; first | refine M1 rfl rfl rfl ?_ | refine M2 rfl rfl rfl ?_ | refine M3 rfl rfl rfl ?_ | refine M4 rfl rfl rfl ?_ | refine M5 rfl rfl rfl (fun _ => ?_) (fun _ => ?_) | refine M6 rfl rfl rfl (fun _ => ?_) (fun _ => ?_)) | (refine IsBin ?_; first | refine B1 rfl rfl rfl rfl ?_ | refine B2 rfl rfl rfl rfl ?_ | refine B3 rfl rfl rfl rfl ?_ | refine B4 rfl rfl rfl rfl ?_ | refine B5 rfl rfl rfl rfl ?_ | refine B6 rfl rfl rfl rfl ?_ | refine B7 rfl rfl rfl rfl rfl ?_ | refine B8 rfl rfl rfl rfl rfl ?_ | refine B9 rfl rfl rfl rfl rfl rfl rfl ?_ | refine BA rfl rfl rfl rfl rfl rfl rfl ?_) | (refine IsConv ?_; refine C1 rfl rfl rfl rfl rfl ?_) | (refine IsLoad ?_; first | refine L1 rfl rfl rfl rfl ?_ | refine L2 rfl rfl rfl rfl rfl ?_) | (refine IsStore ?_; refine S1 rfl rfl rfl rfl rfl rfl rfl (fun _ => ?_)) | (refine IsBox ?_; refine N1 rfl rfl rfl rfl (fun _ => ?_)) | (refine IsAlloc ?_; refine N2 rfl rfl rfl rfl (fun _ => ?_)) | (refine IsBuild ?_; refine U1 rfl rfl rfl rfl rfl rfl ?_) | refine V1 rfl rfl rfl ?_) | (refine IsAt ?_; first | (with_reducible first | refine T1 ?_ | refine T2 ?_ | refine T3 ?_ | refine T4 ?_ | refine T5 ?_ | refine T6 ?_ | refine T7 ?_ | refine T8 ?_ | refine T9 ?_ | refine TA ?_ | refine TB ?_ | refine TC ?_) | ((with_reducible show At _ (PBlock _ _ (Exit.exit _)) _ _); first | refine At_block_hit ?_ | refine At_block_miss rfl ?_)) | (refine IsJ ?_; first | refine J_seq ?_ | refine J_region ?_ | refine J_block ?_ | refine J_skip ?_ | refine J_ret ?_ | refine J_exit ?_ | (refine IsCond ?_; first | refine J_cond_t rfl ?_ | refine J_cond_f rfl ?_ | refine K1 rfl ?_ | refine K2 rfl ?_ | refine K3 rfl ?_ | refine K4 rfl ?_ | refine J_cb rfl (fun _ => ?_) (fun _ => ?_) | refine J_nb rfl (fun _ => ?_) (fun _ => ?_))))
  · rename_i hlt
    have hlt' : q < os.length := by omega
    obtain ⟨o, ho⟩ : ∃ o, os[q]? = some o := ⟨os[q], List.getElem?_eq_getElem _⟩
    have hp := posAt_of (T := T) ho
    have hp2 := h.pos ho
    have hle : o.i + 1 + o.ws.length ≤ T := (h.at ho).2.2.2.2.2.le
    refine JO_fact _ (fun w hs => hR.some (by omega) hs (.tail _ (.head _))) ?_
    rintro ⟨b, of, rfl⟩
    refine JO_val (OV_idx (off := of + q * 5) rfl rfl rfl rfl (by omega) (by omega) (by simp)) rfl rfl ?_
    repeat' (first | (refine IsO ?_; first | refine JO_nil ?_ | (refine IsG ?_; first | refine G1 rfl rfl ?_ | refine G2 rfl ?_) | (refine IsMove ?_; first | refine M1 rfl rfl rfl ?_ | refine M2 rfl rfl rfl ?_ | refine M3 rfl rfl rfl ?_ | refine M4 rfl rfl rfl ?_ | refine M5 rfl rfl rfl (fun _ => ?_) (fun _ => ?_) | refine M6 rfl rfl rfl (fun _ => ?_) (fun _ => ?_)) | (refine IsBin ?_; first | refine B1 rfl rfl rfl rfl ?_ | refine B2 rfl rfl rfl rfl ?_ | refine B3 rfl rfl rfl rfl ?_ | refine B4 rfl rfl rfl rfl ?_ | refine B5 rfl rfl rfl rfl ?_ | refine B6 rfl rfl rfl rfl ?_ | refine B7 rfl rfl rfl rfl rfl ?_ | refine B8 rfl rfl rfl rfl rfl ?_ | refine B9 rfl rfl rfl rfl rfl rfl rfl ?_ | refine BA rfl rfl rfl rfl rfl rfl rfl ?_) | (refine IsConv ?_; refine C1 rfl rfl rfl rfl rfl ?_) | (refine IsLoad ?_; first | refine L1 rfl rfl rfl rfl ?_ | refine L2 rfl rfl rfl rfl rfl ?_) | (refine IsStore ?_; refine S1 rfl rfl rfl rfl rfl rfl rfl (fun _ => ?_)) | (refine IsBox ?_; refine N1 rfl rfl rfl rfl (fun _ => ?_)) | (refine IsAlloc ?_; refine N2 rfl rfl rfl rfl (fun _ => ?_)) | (refine IsBuild ?_; refine U1 rfl rfl rfl rfl rfl rfl ?_) | refine V1 rfl rfl rfl ?_) | (refine IsAt ?_; first | (with_reducible first | refine T1 ?_ | refine T2 ?_ | refine T3 ?_ | refine T4 ?_ | refine T5 ?_ | refine T6 ?_ | refine T7 ?_ | refine T8 ?_ | refine T9 ?_ | refine TA ?_ | refine TB ?_ | refine TC ?_) | ((with_reducible show At _ (PBlock _ _ (Exit.exit _)) _ _); first | refine At_block_hit ?_ | refine At_block_miss rfl ?_)) | (refine IsJ ?_; first | refine J_seq ?_ | refine J_region ?_ | refine J_block ?_ | refine J_skip ?_ | refine J_ret ?_ | refine J_exit ?_ | (refine IsCond ?_; first | refine J_cond_t rfl ?_ | refine J_cond_f rfl ?_ | refine K1 rfl ?_ | refine K2 rfl ?_ | refine K3 rfl ?_ | refine K4 rfl ?_ | refine J_cb rfl (fun _ => ?_) (fun _ => ?_) | refine J_nb rfl (fun _ => ?_) (fun _ => ?_))))
    refine JO_q (OQ_read (i := q * 5 + 2) (v := .int .i64 o.ws.length) hR (.tail _ (.head _)) rfl rfl (by omega) (by rw [objs_get ho (by omega)]; rfl)) rfl rfl ?_
    repeat' (first | (refine IsO ?_; first | refine JO_nil ?_ | (refine IsG ?_; first | refine G1 rfl rfl ?_ | refine G2 rfl ?_) | (refine IsMove ?_; first | refine M1 rfl rfl rfl ?_ | refine M2 rfl rfl rfl ?_ | refine M3 rfl rfl rfl ?_ | refine M4 rfl rfl rfl ?_ | refine M5 rfl rfl rfl (fun _ => ?_) (fun _ => ?_) | refine M6 rfl rfl rfl (fun _ => ?_) (fun _ => ?_)) | (refine IsBin ?_; first | refine B1 rfl rfl rfl rfl ?_ | refine B2 rfl rfl rfl rfl ?_ | refine B3 rfl rfl rfl rfl ?_ | refine B4 rfl rfl rfl rfl ?_ | refine B5 rfl rfl rfl rfl ?_ | refine B6 rfl rfl rfl rfl ?_ | refine B7 rfl rfl rfl rfl rfl ?_ | refine B8 rfl rfl rfl rfl rfl ?_ | refine B9 rfl rfl rfl rfl rfl rfl rfl ?_ | refine BA rfl rfl rfl rfl rfl rfl rfl ?_) | (refine IsConv ?_; refine C1 rfl rfl rfl rfl rfl ?_) | (refine IsLoad ?_; first | refine L1 rfl rfl rfl rfl ?_ | refine L2 rfl rfl rfl rfl rfl ?_) | (refine IsStore ?_; refine S1 rfl rfl rfl rfl rfl rfl rfl (fun _ => ?_)) | (refine IsBox ?_; refine N1 rfl rfl rfl rfl (fun _ => ?_)) | (refine IsAlloc ?_; refine N2 rfl rfl rfl rfl (fun _ => ?_)) | (refine IsBuild ?_; refine U1 rfl rfl rfl rfl rfl rfl ?_) | refine V1 rfl rfl rfl ?_) | (refine IsAt ?_; first | (with_reducible first | refine T1 ?_ | refine T2 ?_ | refine T3 ?_ | refine T4 ?_ | refine T5 ?_ | refine T6 ?_ | refine T7 ?_ | refine T8 ?_ | refine T9 ?_ | refine TA ?_ | refine TB ?_ | refine TC ?_) | ((with_reducible show At _ (PBlock _ _ (Exit.exit _)) _ _); first | refine At_block_hit ?_ | refine At_block_miss rfl ?_)) | (refine IsJ ?_; first | refine J_seq ?_ | refine J_region ?_ | refine J_block ?_ | refine J_skip ?_ | refine J_ret ?_ | refine J_exit ?_ | (refine IsCond ?_; first | refine J_cond_t rfl ?_ | refine J_cond_f rfl ?_ | refine K1 rfl ?_ | refine K2 rfl ?_ | refine K3 rfl ?_ | refine K4 rfl ?_ | refine J_cb rfl (fun _ => ?_) (fun _ => ?_) | refine J_nb rfl (fun _ => ?_) (fun _ => ?_))))
    refine At_round (q + 1) (by show os.length - (q + 1) < os.length - q; omega) (show q + 1 ≤ os.length by omega) ?_ (fun H hl => hl)
    rw [hp2, show ((o.i + 1 + o.ws.length : Nat) : Int) = (posAt os T q : Int) + 1 + o.ws.length by omega]
    exact (by repeat (first | exact True.intro | refine And.intro rfl ?_))
  · have hqq : q = os.length := by omega
    subst hqq
    exact At_ret rfl rfl (.tmp rfl .nil) rfl (is := [1, 1]) rfl ⟨by rw [posAt_end]; rfl, rfl⟩
set_option maxHeartbeats 4000000 in
theorem Leads_spec {n T : Nat} {ws : List Int} {st : List Bool} (size x : Int) (h : HT n T ws st) (hc : Ch ws 0 os T) (hx : In64 x) : Does Try.prog 86 [refV size a os.length cap, .int .i64 x] (refL a cap os)
    (fun v l => v = .bool (leadsB ws st x) ∧ l = refL a cap os) := by
  have hlen := hc.len
  have htn := h.tn
  have hnb := h.nb
  obtain ⟨hx1, hx2⟩ := hx
  refine Does.of tiok Try.func86 (by kernel_rfl) rfl Try.ntmps86 rfl ?_
  intro W fr
  refine J_rowzf P0 ?_
  rintro ⟨hl, hn, hcc⟩
  have hR : Reads (objsZ a cap os) 5 os.length a cap (os.flatMap cellsO) := Reads.rowz hl hn
  repeat' (first | (refine IsO ?_; first | refine JO_nil ?_ | (refine IsG ?_; first | refine G1 rfl rfl ?_ | refine G2 rfl ?_) | (refine IsMove ?_; first | refine M1 rfl rfl rfl ?_ | refine M2 rfl rfl rfl ?_ | refine M3 rfl rfl rfl ?_ | refine M4 rfl rfl rfl ?_ | refine M5 rfl rfl rfl (fun _ => ?_) (fun _ => ?_) | refine M6 rfl rfl rfl (fun _ => ?_) (fun _ => ?_)) | (refine IsBin ?_; first | refine B1 rfl rfl rfl rfl ?_ | refine B2 rfl rfl rfl rfl ?_ | refine B3 rfl rfl rfl rfl ?_ | refine B4 rfl rfl rfl rfl ?_ | refine B5 rfl rfl rfl rfl ?_ | refine B6 rfl rfl rfl rfl ?_ | refine B7 rfl rfl rfl rfl rfl ?_ | refine B8 rfl rfl rfl rfl rfl ?_ | refine B9 rfl rfl rfl rfl rfl rfl rfl ?_ | refine BA rfl rfl rfl rfl rfl rfl rfl ?_) | (refine IsConv ?_; refine C1 rfl rfl rfl rfl rfl ?_) | (refine IsLoad ?_; first | refine L1 rfl rfl rfl rfl ?_ | refine L2 rfl rfl rfl rfl rfl ?_) | (refine IsStore ?_; refine S1 rfl rfl rfl rfl rfl rfl rfl (fun _ => ?_)) | (refine IsBox ?_; refine N1 rfl rfl rfl rfl (fun _ => ?_)) | (refine IsAlloc ?_; refine N2 rfl rfl rfl rfl (fun _ => ?_)) | (refine IsBuild ?_; refine U1 rfl rfl rfl rfl rfl rfl ?_) | refine V1 rfl rfl rfl ?_) | (refine IsAt ?_; first | (with_reducible first | refine T1 ?_ | refine T2 ?_ | refine T3 ?_ | refine T4 ?_ | refine T5 ?_ | refine T6 ?_ | refine T7 ?_ | refine T8 ?_ | refine T9 ?_ | refine TA ?_ | refine TB ?_ | refine TC ?_) | ((with_reducible show At _ (PBlock _ _ (Exit.exit _)) _ _); first | refine At_block_hit ?_ | refine At_block_miss rfl ?_)) | (refine IsJ ?_; first | refine J_seq ?_ | refine J_region ?_ | refine J_block ?_ | refine J_skip ?_ | refine J_ret ?_ | refine J_exit ?_ | (refine IsCond ?_; first | refine J_cond_t rfl ?_ | refine J_cond_f rfl ?_ | refine K1 rfl ?_ | refine K2 rfl ?_ | refine K3 rfl ?_ | refine K4 rfl ?_ | refine J_cb rfl (fun _ => ?_) (fun _ => ?_) | refine J_nb rfl (fun _ => ?_) (fun _ => ?_))))
  · rename_i bx hle
    refine At_ret rfl rfl (.tmp rfl .nil) rfl (is := [1, 1]) rfl ⟨?_, rfl⟩
    refine congrArg Value.bool ?_
    unfold leadsB
    exact decide_eq_decide.2 (by omega)
  · rename_i bx hle
    refine JO_l (OL_call [1, 1] rfl rfl rfl (Find_spec _ _ (by omega)) rfl) rfl rfl ?_; rintro _ _ ⟨_, ⟨r, hr, rfl, rfl⟩, rfl⟩
    rcases hr with ⟨j, o, rfl, hj, hi⟩ | ⟨rfl, hno⟩
    · obtain ⟨⟨_, k1⟩, k2, k3, k4, k5⟩ := findR_some (x := x) h hc hj
      have hjl : j < os.length := (List.getElem?_eq_some_iff.1 hj).1
      repeat' (first | (refine IsO ?_; first | refine JO_nil ?_ | (refine IsG ?_; first | refine G1 rfl rfl ?_ | refine G2 rfl ?_) | (refine IsMove ?_; first | refine M1 rfl rfl rfl ?_ | refine M2 rfl rfl rfl ?_ | refine M3 rfl rfl rfl ?_ | refine M4 rfl rfl rfl ?_ | refine M5 rfl rfl rfl (fun _ => ?_) (fun _ => ?_) | refine M6 rfl rfl rfl (fun _ => ?_) (fun _ => ?_)) | (refine IsBin ?_; first | refine B1 rfl rfl rfl rfl ?_ | refine B2 rfl rfl rfl rfl ?_ | refine B3 rfl rfl rfl rfl ?_ | refine B4 rfl rfl rfl rfl ?_ | refine B5 rfl rfl rfl rfl ?_ | refine B6 rfl rfl rfl rfl ?_ | refine B7 rfl rfl rfl rfl rfl ?_ | refine B8 rfl rfl rfl rfl rfl ?_ | refine B9 rfl rfl rfl rfl rfl rfl rfl ?_ | refine BA rfl rfl rfl rfl rfl rfl rfl ?_) | (refine IsConv ?_; refine C1 rfl rfl rfl rfl rfl ?_) | (refine IsLoad ?_; first | refine L1 rfl rfl rfl rfl ?_ | refine L2 rfl rfl rfl rfl rfl ?_) | (refine IsStore ?_; refine S1 rfl rfl rfl rfl rfl rfl rfl (fun _ => ?_)) | (refine IsBox ?_; refine N1 rfl rfl rfl rfl (fun _ => ?_)) | (refine IsAlloc ?_; refine N2 rfl rfl rfl rfl (fun _ => ?_)) | (refine IsBuild ?_; refine U1 rfl rfl rfl rfl rfl rfl ?_) | refine V1 rfl rfl rfl ?_) | (refine IsAt ?_; first | (with_reducible first | refine T1 ?_ | refine T2 ?_ | refine T3 ?_ | refine T4 ?_ | refine T5 ?_ | refine T6 ?_ | refine T7 ?_ | refine T8 ?_ | refine T9 ?_ | refine TA ?_ | refine TB ?_ | refine TC ?_) | ((with_reducible show At _ (PBlock _ _ (Exit.exit _)) _ _); first | refine At_block_hit ?_ | refine At_block_miss rfl ?_)) | (refine IsJ ?_; first | refine J_seq ?_ | refine J_region ?_ | refine J_block ?_ | refine J_skip ?_ | refine J_ret ?_ | refine J_exit ?_ | (refine IsCond ?_; first | refine J_cond_t rfl ?_ | refine J_cond_f rfl ?_ | refine K1 rfl ?_ | refine K2 rfl ?_ | refine K3 rfl ?_ | refine K4 rfl ?_ | refine J_cb rfl (fun _ => ?_) (fun _ => ?_) | refine J_nb rfl (fun _ => ?_) (fun _ => ?_))))
      refine JO_fact _ (fun w hs => hR.some (by omega) hs (by repeat (first | exact .head _ | refine .tail _ ?_))) ?_
      rintro ⟨b, of, rfl⟩
      refine JO_val (OV_idx (off := of + j * 5) rfl rfl rfl rfl (by omega) (by omega) (by simp)) rfl rfl ?_
      repeat' (first | (refine IsO ?_; first | refine JO_nil ?_ | (refine IsG ?_; first | refine G1 rfl rfl ?_ | refine G2 rfl ?_) | (refine IsMove ?_; first | refine M1 rfl rfl rfl ?_ | refine M2 rfl rfl rfl ?_ | refine M3 rfl rfl rfl ?_ | refine M4 rfl rfl rfl ?_ | refine M5 rfl rfl rfl (fun _ => ?_) (fun _ => ?_) | refine M6 rfl rfl rfl (fun _ => ?_) (fun _ => ?_)) | (refine IsBin ?_; first | refine B1 rfl rfl rfl rfl ?_ | refine B2 rfl rfl rfl rfl ?_ | refine B3 rfl rfl rfl rfl ?_ | refine B4 rfl rfl rfl rfl ?_ | refine B5 rfl rfl rfl rfl ?_ | refine B6 rfl rfl rfl rfl ?_ | refine B7 rfl rfl rfl rfl rfl ?_ | refine B8 rfl rfl rfl rfl rfl ?_ | refine B9 rfl rfl rfl rfl rfl rfl rfl ?_ | refine BA rfl rfl rfl rfl rfl rfl rfl ?_) | (refine IsConv ?_; refine C1 rfl rfl rfl rfl rfl ?_) | (refine IsLoad ?_; first | refine L1 rfl rfl rfl rfl ?_ | refine L2 rfl rfl rfl rfl rfl ?_) | (refine IsStore ?_; refine S1 rfl rfl rfl rfl rfl rfl rfl (fun _ => ?_)) | (refine IsBox ?_; refine N1 rfl rfl rfl rfl (fun _ => ?_)) | (refine IsAlloc ?_; refine N2 rfl rfl rfl rfl (fun _ => ?_)) | (refine IsBuild ?_; refine U1 rfl rfl rfl rfl rfl rfl ?_) | refine V1 rfl rfl rfl ?_) | (refine IsAt ?_; first | (with_reducible first | refine T1 ?_ | refine T2 ?_ | refine T3 ?_ | refine T4 ?_ | refine T5 ?_ | refine T6 ?_ | refine T7 ?_ | refine T8 ?_ | refine T9 ?_ | refine TA ?_ | refine TB ?_ | refine TC ?_) | ((with_reducible show At _ (PBlock _ _ (Exit.exit _)) _ _); first | refine At_block_hit ?_ | refine At_block_miss rfl ?_)) | (refine IsJ ?_; first | refine J_seq ?_ | refine J_region ?_ | refine J_block ?_ | refine J_skip ?_ | refine J_ret ?_ | refine J_exit ?_ | (refine IsCond ?_; first | refine J_cond_t rfl ?_ | refine J_cond_f rfl ?_ | refine K1 rfl ?_ | refine K2 rfl ?_ | refine K3 rfl ?_ | refine K4 rfl ?_ | refine J_cb rfl (fun _ => ?_) (fun _ => ?_) | refine J_nb rfl (fun _ => ?_) (fun _ => ?_))))
      refine JO_q (OQ_read (i := j * 5 + 1) (v := .int .i64 o.k) hR (by repeat (first | exact .head _ | refine .tail _ ?_)) rfl rfl (by omega) (by rw [objs_get hj (by omega)]; rfl)) rfl rfl ?_
      repeat' (first | (refine IsO ?_; first | refine JO_nil ?_ | (refine IsG ?_; first | refine G1 rfl rfl ?_ | refine G2 rfl ?_) | (refine IsMove ?_; first | refine M1 rfl rfl rfl ?_ | refine M2 rfl rfl rfl ?_ | refine M3 rfl rfl rfl ?_ | refine M4 rfl rfl rfl ?_ | refine M5 rfl rfl rfl (fun _ => ?_) (fun _ => ?_) | refine M6 rfl rfl rfl (fun _ => ?_) (fun _ => ?_)) | (refine IsBin ?_; first | refine B1 rfl rfl rfl rfl ?_ | refine B2 rfl rfl rfl rfl ?_ | refine B3 rfl rfl rfl rfl ?_ | refine B4 rfl rfl rfl rfl ?_ | refine B5 rfl rfl rfl rfl ?_ | refine B6 rfl rfl rfl rfl ?_ | refine B7 rfl rfl rfl rfl rfl ?_ | refine B8 rfl rfl rfl rfl rfl ?_ | refine B9 rfl rfl rfl rfl rfl rfl rfl ?_ | refine BA rfl rfl rfl rfl rfl rfl rfl ?_) | (refine IsConv ?_; refine C1 rfl rfl rfl rfl rfl ?_) | (refine IsLoad ?_; first | refine L1 rfl rfl rfl rfl ?_ | refine L2 rfl rfl rfl rfl rfl ?_) | (refine IsStore ?_; refine S1 rfl rfl rfl rfl rfl rfl rfl (fun _ => ?_)) | (refine IsBox ?_; refine N1 rfl rfl rfl rfl (fun _ => ?_)) | (refine IsAlloc ?_; refine N2 rfl rfl rfl rfl (fun _ => ?_)) | (refine IsBuild ?_; refine U1 rfl rfl rfl rfl rfl rfl ?_) | refine V1 rfl rfl rfl ?_) | (refine IsAt ?_; first | (with_reducible first | refine T1 ?_ | refine T2 ?_ | refine T3 ?_ | refine T4 ?_ | refine T5 ?_ | refine T6 ?_ | refine T7 ?_ | refine T8 ?_ | refine T9 ?_ | refine TA ?_ | refine TB ?_ | refine TC ?_) | ((with_reducible show At _ (PBlock _ _ (Exit.exit _)) _ _); first | refine At_block_hit ?_ | refine At_block_miss rfl ?_)) | (refine IsJ ?_; first | refine J_seq ?_ | refine J_region ?_ | refine J_block ?_ | refine J_skip ?_ | refine J_ret ?_ | refine J_exit ?_ | (refine IsCond ?_; first | refine J_cond_t rfl ?_ | refine J_cond_f rfl ?_ | refine K1 rfl ?_ | refine K2 rfl ?_ | refine K3 rfl ?_ | refine K4 rfl ?_ | refine J_cb rfl (fun _ => ?_) (fun _ => ?_) | refine J_nb rfl (fun _ => ?_) (fun _ => ?_))))
      refine At_ret rfl rfl (.tmp rfl .nil) rfl (is := [0, 0]) rfl ⟨congrArg Value.bool ?_, rfl⟩
      unfold leadsB
      have e : (x - 1).toNat = o.i := by omega
      rw [e, getD_of k2, (packI_un k3).2.2.1]
      rw [Int.toNat_natCast] at k1
      simp only [k1]
      have e0 : ¬ x = 0 := by omega
      have e1 : 1 ≤ x := by omega
      simp [e0, e1]
    · have hno' := findR_none h hc hno
      repeat' (first | (refine IsO ?_; first | refine JO_nil ?_ | (refine IsG ?_; first | refine G1 rfl rfl ?_ | refine G2 rfl ?_) | (refine IsMove ?_; first | refine M1 rfl rfl rfl ?_ | refine M2 rfl rfl rfl ?_ | refine M3 rfl rfl rfl ?_ | refine M4 rfl rfl rfl ?_ | refine M5 rfl rfl rfl (fun _ => ?_) (fun _ => ?_) | refine M6 rfl rfl rfl (fun _ => ?_) (fun _ => ?_)) | (refine IsBin ?_; first | refine B1 rfl rfl rfl rfl ?_ | refine B2 rfl rfl rfl rfl ?_ | refine B3 rfl rfl rfl rfl ?_ | refine B4 rfl rfl rfl rfl ?_ | refine B5 rfl rfl rfl rfl ?_ | refine B6 rfl rfl rfl rfl ?_ | refine B7 rfl rfl rfl rfl rfl ?_ | refine B8 rfl rfl rfl rfl rfl ?_ | refine B9 rfl rfl rfl rfl rfl rfl rfl ?_ | refine BA rfl rfl rfl rfl rfl rfl rfl ?_) | (refine IsConv ?_; refine C1 rfl rfl rfl rfl rfl ?_) | (refine IsLoad ?_; first | refine L1 rfl rfl rfl rfl ?_ | refine L2 rfl rfl rfl rfl rfl ?_) | (refine IsStore ?_; refine S1 rfl rfl rfl rfl rfl rfl rfl (fun _ => ?_)) | (refine IsBox ?_; refine N1 rfl rfl rfl rfl (fun _ => ?_)) | (refine IsAlloc ?_; refine N2 rfl rfl rfl rfl (fun _ => ?_)) | (refine IsBuild ?_; refine U1 rfl rfl rfl rfl rfl rfl ?_) | refine V1 rfl rfl rfl ?_) | (refine IsAt ?_; first | (with_reducible first | refine T1 ?_ | refine T2 ?_ | refine T3 ?_ | refine T4 ?_ | refine T5 ?_ | refine T6 ?_ | refine T7 ?_ | refine T8 ?_ | refine T9 ?_ | refine TA ?_ | refine TB ?_ | refine TC ?_) | ((with_reducible show At _ (PBlock _ _ (Exit.exit _)) _ _); first | refine At_block_hit ?_ | refine At_block_miss rfl ?_)) | (refine IsJ ?_; first | refine J_seq ?_ | refine J_region ?_ | refine J_block ?_ | refine J_skip ?_ | refine J_ret ?_ | refine J_exit ?_ | (refine IsCond ?_; first | refine J_cond_t rfl ?_ | refine J_cond_f rfl ?_ | refine K1 rfl ?_ | refine K2 rfl ?_ | refine K3 rfl ?_ | refine K4 rfl ?_ | refine J_cb rfl (fun _ => ?_) (fun _ => ?_) | refine J_nb rfl (fun _ => ?_) (fun _ => ?_))))
      refine At_ret rfl rfl (.tmp rfl .nil) rfl (is := [0, 0]) rfl ⟨congrArg Value.bool ?_, rfl⟩
      unfold leadsB
      refine (decide_eq_false ?_).symm
      rintro (e | ⟨e1, e2, _⟩)
      · omega
      · exact hno' ⟨by omega, e2⟩
end ops
end Go.Proofs.Ytchanmljjfcplaa
