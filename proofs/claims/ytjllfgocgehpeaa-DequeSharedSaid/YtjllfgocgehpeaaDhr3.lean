/-
  Our own: what the claims of Dhr share, 3 of 3: Dha Jt Ju Dhb Mi Dhc LaDq LaDh.
-/
import Derived.Test.YtjllfgocgehpeaaDhr2
import Derived.RangeFuncStops
import Derived.RangeFuncLeaves
import Derived.LoopNIn
import Derived.Laws.StructEq
import Derived.Tactics
import Derived.Laws.Slices
import Derived.Deep.Quiet
import Derived.IntWalk
import Derived.Shelf.Abstract
import Derived.Laws.Entries
import Derived.Laws.Rows
import Derived.Below
import Derived.TacticsIn
import Derived.OrdersIn
import Derived.KernelRfl
import Derived.Test.YtjllfgocgehpeaaProg
import Derived.Maps.Range
import Derived.Maps.Views
/-
  Our own: a deque that its owner and three others use at once: what stays true at each step, in plain lists.
-/
set_option linter.unusedVariables false
set_option linter.unusedSimpArgs false
namespace Go.Proofs.Ytjllfgocgehpeaa
open Go.Sep
/-- A worker's call, or none: where it lies, whether it pushes, its step, what it knows. -/
structure DK where
  k : Nat
  on : Bool
  push : Bool
  c : Nat
  s : Nat
  b : Nat
  t : Nat
  word : Int
def OwnD (x : DK) (pu next : Int) (ws P : List Int) (T : Nat) : Prop :=
  (x.on = false → pu = 0 ∧ ws[0]? = some ((T % 4096 + P.length : Nat) : Int)) ∧
  (x.on = true → x.push = true → pu = x.word ∧ 0 < x.word ∧ x.word < next ∧ x.s ≤ 2 ∧ ws[0]? = some ((T % 4096 + P.length : Nat) : Int) ∧ (1 ≤ x.s → x.b = T % 4096 + P.length ∧ x.b < 40) ∧ (x.s = 2 → ws[2 + x.b]? = some x.word)) ∧
  (x.on = true → x.push = false → pu = 0 ∧ x.s ≤ 6 ∧ (x.s ≤ 1 → ws[0]? = some ((T % 4096 + P.length : Nat) : Int)) ∧ (1 ≤ x.s → x.s ≤ 5 → x.b + 1 = T % 4096 + P.length) ∧ (2 ≤ x.s → x.s ≤ 4 → ws[0]? = some (x.b : Int)) ∧
    (3 ≤ x.s → x.s ≤ 5 → ws[2 + x.b]? = some x.word) ∧ (4 ≤ x.s → x.t / 4096 = T / 4096 ∧ x.t ≤ T) ∧ (x.s = 4 → x.b ≤ x.t % 4096) ∧ (5 ≤ x.s → ws[0]? = some 0) ∧ (x.s = 5 → x.b = x.t % 4096) ∧ (x.s = 6 → P = []))
def ThD (x : DK) (P : List Int) (T : Nat) : Prop :=
  x.s ≤ 3 ∧ (1 ≤ x.s → x.t ≤ T) ∧ (2 ≤ x.s → x.t % 4096 < 40) ∧ (2 ≤ x.s → x.t = T → 0 < P.length) ∧ (x.s = 3 → x.t = T → P[0]? = some x.word)
structure DHI (cs : List DK) (pu next : Int) (m : Nat) (ws P : List Int) (T : Nat) : Prop where
  cl : cs.length = 4
  ck : ∀ (j : Nat) (x : DK), cs[j]? = some x → x.k = j
  wl : ws.length = 42
  tp : ws[1]? = some (T : Int)
  tb : T / 4096 ≤ m
  ph : T % 4096 + P.length ≤ 40
  pa : ∀ (i : Nat), i < P.length → ws[2 + (T % 4096 + i)]? = P[i]?
  pb : ∀ (y : Int), y ∈ P → 0 < y ∧ y < next
  own : ∀ (x : DK), cs[0]? = some x → OwnD x pu next ws P T
  th : ∀ (j : Nat) (x : DK), 0 < j → cs[j]? = some x → x.on = true → x.push = false ∧ ThD x P T
theorem DHI.upd {cs : List DK} {pu pu' next next' : Int} {m m' : Nat} {ws P ws' P' : List Int} {T T' k : Nat} (h : DHI cs pu next m ws P T) (x' : DK) (hk : x'.k = k) (hk4 : k < 4) (wl : ws'.length = 42) (tp : ws'[1]? = some (T' : Int)) (tb : T' / 4096 ≤ m') (ph : T' % 4096 + P'.length ≤ 40)
    (pa : ∀ i, i < P'.length → ws'[2 + (T' % 4096 + i)]? = P'[i]?) (pb : ∀ y ∈ P', 0 < y ∧ y < next') (hO : k = 0 → OwnD x' pu' next' ws' P' T') (hO2 : k ≠ 0 → ∀ x, OwnD x pu next ws P T → OwnD x pu' next' ws' P' T')
    (hT : k ≠ 0 → x'.on = true → x'.push = false ∧ ThD x' P' T') (hT2 : ∀ x, ThD x P T → ThD x P' T') : DHI (cs.set k x') pu' next' m' ws' P' T' := by
  have hcl := h.cl
  have hset : ∀ j y, (cs.set k x')[j]? = some y → (j = k ∧ y = x') ∨ (j ≠ k ∧ cs[j]? = some y) := by
    intro j y hy
    rw [List.getElem?_set] at hy
    by_cases e : k = j
    · rw [if_pos e, if_pos (by omega)] at hy
      injection hy with hy
      exact .inl ⟨e.symm, hy.symm⟩
    · rw [if_neg e] at hy
      exact .inr ⟨fun e2 => e e2.symm, hy⟩
  refine ⟨by simp [hcl], fun j y hy => ?_, wl, tp, tb, ph, pa, pb, fun y hy => ?_, fun j y hj hy hon => ?_⟩
  · rcases hset j y hy with ⟨rfl, rfl⟩ | ⟨_, hy⟩
    · exact hk
    · exact h.ck j y hy
  · rcases hset 0 y hy with ⟨e, rfl⟩ | ⟨hne, hy⟩
    · exact hO e.symm
    · exact hO2 (Ne.symm hne) y (h.own y hy)
  · rcases hset j y hy with ⟨rfl, rfl⟩ | ⟨_, hy⟩
    · exact hT (by omega) hon
    · obtain ⟨a1, a2⟩ := h.th j y hj hy hon
      exact ⟨a1, hT2 y a2⟩
theorem set_eq {α : Type} {l : List α} {i : Nat} {v : α} (h : i < l.length) : (l.set i v)[i]? = some v := by rw [List.getElem?_set, if_pos rfl, if_pos h]
theorem set_ne {α : Type} {l : List α} {i j : Nat} {v : α} (h : i ≠ j) : (l.set i v)[j]? = l[j]? := List.getElem?_set_ne h
section steps
variable {cs : List DK} {pu next : Int} {m : Nat} {ws P : List Int} {T : Nat} {k : Nat} {x : DK}
theorem DHI.bot (h : DHI cs pu next m ws P T) : ∃ m0 : Nat, ws[0]? = some (m0 : Int) ∧ m0 ≤ T % 4096 + P.length := by
  have hcl := h.cl
  have hx : cs[0]? = some cs[0] := List.getElem?_eq_getElem _
  obtain ⟨h1, h2, h3⟩ := h.own _ hx
  generalize cs[0] = x at h1 h2 h3
  cases ho : x.on with
  | false => exact ⟨_, (h1 ho).2, Nat.le_refl _⟩
  | true =>
    cases hp : x.push with
    | true => exact ⟨_, (h2 ho hp).2.2.2.2.1, Nat.le_refl _⟩
    | false =>
      obtain ⟨_, b1, b2, b3, b4, b5, b6, b7, b8, b9⟩ := h3 ho hp
      by_cases e1 : x.s ≤ 1
      · exact ⟨_, b2 e1, Nat.le_refl _⟩
      · by_cases e2 : x.s ≤ 4
        · exact ⟨_, b4 (by omega) e2, by have := b3 (by omega) (by omega); omega⟩
        · exact ⟨0, b8 (by omega), Nat.zero_le _⟩
/-- Nothing but what one call knows has changed. -/
theorem DHI.quiet {pu' : Int} {m' : Nat} (h : DHI cs pu next m ws P T) (x' : DK) (hk : x'.k = k) (hk4 : k < 4) (hm : m ≤ m') (hO : k = 0 → OwnD x' pu' next ws P T) (hO2 : k ≠ 0 → pu' = pu) (hT : k ≠ 0 → x'.on = true → x'.push = false ∧ ThD x' P T) : DHI (cs.set k x') pu' next m' ws P T :=
  h.upd x' hk hk4 h.wl h.tp (Nat.le_trans h.tb hm) h.ph h.pa h.pb hO (fun e x hx => by rw [hO2 e]; exact hx) hT (fun x hx => hx)
theorem OwnD.off {x : DK} (h1 : x.on = false) (h2 : pu = 0) (h3 : ws[0]? = some ((T % 4096 + P.length : Nat) : Int)) : OwnD x pu next ws P T :=
  ⟨fun _ => ⟨h2, h3⟩, fun h => absurd (h1.symm.trans h) (by decide), fun h => absurd (h1.symm.trans h) (by decide)⟩
theorem push0 (h : DHI cs pu next m ws P T) (hx : cs[0]? = some x) (ho : x.on = true) (hp : x.push = true) (hs : x.s = 0) (hb : T % 4096 + P.length < 40) : DHI (cs.set 0 { x with s := 1, b := T % 4096 + P.length }) pu next (m + 1) ws P T := by
  obtain ⟨a1, a2, a3, a4, a5, a6, a7⟩ := (h.own x hx).2.1 ho hp
  refine h.quiet _ (h.ck 0 x hx) (by decide) (Nat.le_succ _) (fun _ => ⟨fun e => ?_, fun _ _ => ⟨a1, a2, a3, by show 1 ≤ 2; decide, a5, fun _ => ⟨rfl, hb⟩, fun e => by cases e⟩, fun _ e => ?_⟩) (fun e => absurd rfl e) (fun e => absurd rfl e)
  · rw [show ({ x with s := 1, b := T % 4096 + P.length } : DK).on = x.on from rfl, ho] at e; cases e
  · rw [show ({ x with s := 1, b := T % 4096 + P.length } : DK).push = x.push from rfl, hp] at e; cases e
theorem idle0 (h : DHI cs pu next m ws P T) (hx : cs[0]? = some x) (hb : ws[0]? = some ((T % 4096 + P.length : Nat) : Int)) : DHI (cs.set 0 { x with on := false }) 0 next (m + 1) ws P T :=
  h.quiet _ (h.ck 0 x hx) (by decide) (Nat.le_succ _) (fun _ => OwnD.off rfl rfl hb) (fun e => absurd rfl e) (fun e => absurd rfl e)
theorem push1 (h : DHI cs pu next m ws P T) (hx : cs[0]? = some x) (ho : x.on = true) (hp : x.push = true) (hs : x.s = 1) : DHI (cs.set 0 { x with s := 2 }) pu next (m + 1) (ws.set (2 + x.b) x.word) P T := by
  obtain ⟨a1, a2, a3, a4, a5, a6, a7⟩ := (h.own x hx).2.1 ho hp
  obtain ⟨b1, b2⟩ := a6 (by omega)
  have hwl := h.wl
  have htb := h.tb
  refine h.upd _ (h.ck 0 x hx) (by decide) (by simp [hwl]) (by rw [set_ne (by omega)]; exact h.tp) (by omega) h.ph (fun i hi => by rw [set_ne (by omega)]; exact h.pa i hi) h.pb
    (fun _ => ⟨fun e => ?_, fun _ _ => ⟨a1, a2, a3, Nat.le_refl _, by rw [set_ne (by omega)]; exact a5, fun _ => ⟨b1, b2⟩, fun _ => set_eq (by omega)⟩, fun _ e => ?_⟩) (fun e => absurd rfl e) (fun e => absurd rfl e) (fun _ e => e)
  · rw [show ({ x with s := 2 } : DK).on = x.on from rfl, ho] at e; cases e
  · rw [show ({ x with s := 2 } : DK).push = x.push from rfl, hp] at e; cases e
theorem push2 (h : DHI cs pu next m ws P T) (hx : cs[0]? = some x) (ho : x.on = true) (hp : x.push = true) (hs : x.s = 2) : DHI (cs.set 0 { x with on := false }) 0 next (m + 1) (ws.set 0 ((x.b : Int) + 1)) (P ++ [x.word]) T := by
  obtain ⟨a1, a2, a3, a4, a5, a6, a7⟩ := (h.own x hx).2.1 ho hp
  obtain ⟨b1, b2⟩ := a6 (by omega)
  have hwl := h.wl
  have htb := h.tb
  have hw := a7 hs
  refine h.upd _ (h.ck 0 x hx) (by decide) (by simp [hwl]) (by rw [set_ne (by omega)]; exact h.tp) (by omega) (by simp; omega) (fun i hi => ?_) (fun y hy => ?_)
    (fun _ => OwnD.off rfl rfl ?_) (fun e => absurd rfl e) (fun e => absurd rfl e) (fun y ⟨e1, e2, e3, e4, e5⟩ => ⟨e1, e2, e3, fun e6 e7 => by simp, fun e6 e7 => ?_⟩)
  · rw [set_ne (by omega)]
    rw [List.length_append, List.length_singleton] at hi
    by_cases e : i = P.length
    · subst e; rw [← b1, hw]; simp
    · rw [h.pa i (by omega), List.getElem?_append_left (by omega)]
  · rcases List.mem_append.1 hy with hy | hy
    · exact h.pb y hy
    · rw [List.mem_singleton.1 hy]; exact ⟨a2, a3⟩
  · rw [set_eq (by omega), b1, List.length_append, List.length_singleton]
    congr 1
  · rw [List.getElem?_append_left (e4 (by omega) e7)]; exact e5 e6 e7
theorem pop0 (h : DHI cs pu next m ws P T) (hx : cs[0]? = some x) (ho : x.on = true) (hp : x.push = false) (hs : x.s = 0) {b : Nat} (hb : b + 1 = T % 4096 + P.length) : DHI (cs.set 0 { x with s := 1, b := b }) pu next (m + 1) ws P T := by
  obtain ⟨a1, a2, a3, a4, a5, a6, a7, a8, a9, a10, a11⟩ := (h.own x hx).2.2 ho hp
  refine h.quiet _ (h.ck 0 x hx) (by decide) (Nat.le_succ _) (fun _ => ⟨fun e => ?_, fun _ e => ?_, fun _ _ => ⟨a1, by show 1 ≤ 6; decide, fun _ => a3 (by omega), fun _ _ => hb, ?_, ?_, ?_, ?_, ?_, ?_, ?_⟩⟩) (fun e => absurd rfl e) (fun e => absurd rfl e)
  · rw [show ({ x with s := 1, b := b } : DK).on = x.on from rfl, ho] at e; cases e
  · rw [show ({ x with s := 1, b := b } : DK).push = x.push from rfl, hp] at e; cases e
  all_goals (dsimp only; intros; omega)
theorem pop1 (h : DHI cs pu next m ws P T) (hx : cs[0]? = some x) (ho : x.on = true) (hp : x.push = false) (hs : x.s = 1) : DHI (cs.set 0 { x with s := 2 }) pu next (m + 1) (ws.set 0 (x.b : Int)) P T := by
  obtain ⟨a1, a2, a3, a4, a5, a6, a7, a8, a9, a10, a11⟩ := (h.own x hx).2.2 ho hp
  have hwl := h.wl
  have htb := h.tb
  refine h.upd _ (h.ck 0 x hx) (by decide) (by simp [hwl]) (by rw [set_ne (by omega)]; exact h.tp) (by omega) h.ph (fun i hi => by rw [set_ne (by omega)]; exact h.pa i hi) h.pb
    (fun _ => ⟨fun e => ?_, fun _ e => ?_, fun _ _ => ⟨a1, by show 2 ≤ 6; decide, ?_, fun _ _ => a4 (by omega) (by omega), fun _ _ => set_eq (by omega), ?_, ?_, ?_, ?_, ?_, ?_⟩⟩) (fun e => absurd rfl e) (fun e => absurd rfl e) (fun _ e => e)
  · rw [show ({ x with s := 2 } : DK).on = x.on from rfl, ho] at e; cases e
  · rw [show ({ x with s := 2 } : DK).push = x.push from rfl, hp] at e; cases e
  all_goals (dsimp only; intros; omega)
theorem pop2 {w : Int} (h : DHI cs pu next m ws P T) (hx : cs[0]? = some x) (ho : x.on = true) (hp : x.push = false) (hs : x.s = 2) (hw : ws[2 + x.b]? = some w) : DHI (cs.set 0 { x with s := 3, word := w }) pu next (m + 1) ws P T := by
  obtain ⟨a1, a2, a3, a4, a5, a6, a7, a8, a9, a10, a11⟩ := (h.own x hx).2.2 ho hp
  refine h.quiet _ (h.ck 0 x hx) (by decide) (Nat.le_succ _) (fun _ => ⟨fun e => ?_, fun _ e => ?_, fun _ _ => ⟨a1, by show 3 ≤ 6; decide, ?_, fun _ _ => a4 (by omega) (by omega), fun _ _ => a5 (by omega) (by omega), fun _ _ => hw, ?_, ?_, ?_, ?_, ?_⟩⟩) (fun e => absurd rfl e) (fun e => absurd rfl e)
  · rw [show ({ x with s := 3, word := w } : DK).on = x.on from rfl, ho] at e; cases e
  · rw [show ({ x with s := 3, word := w } : DK).push = x.push from rfl, hp] at e; cases e
  all_goals (dsimp only; intros; omega)
theorem pop3_take (h : DHI cs pu next m ws P T) (hx : cs[0]? = some x) (ho : x.on = true) (hp : x.push = false) (hs : x.s = 3) (hb : T % 4096 < x.b) : ∃ P0, P = P0 ++ [x.word] ∧ DHI (cs.set 0 { x with on := false }) 0 next (m + 1) ws P0 T := by
  obtain ⟨a1, a2, a3, a4, a5, a6, a7, a8, a9, a10, a11⟩ := (h.own x hx).2.2 ho hp
  have hb2 := a4 (by omega) (by omega)
  have hw := a6 (by omega) (by omega)
  have htb := h.tb
  have hph := h.ph
  obtain ⟨P0, w, rfl⟩ : ∃ P0 w, P = P0 ++ [w] := ⟨P.dropLast, P.getLast (by intro e; rw [e] at hb2; simp at hb2; omega), (List.dropLast_concat_getLast _).symm⟩
  rw [List.length_append, List.length_singleton] at hb2 hph
  have hl := h.pa P0.length (by simp)
  rw [show 2 + (T % 4096 + P0.length) = 2 + x.b by omega, hw] at hl
  have hww : x.word = w := by simpa using hl
  refine ⟨P0, by rw [hww], h.upd _ (h.ck 0 x hx) (by decide) h.wl h.tp (by omega) (by omega) (fun i hi => ?_) (fun y hy => h.pb y (List.mem_append_left _ hy)) (fun _ => OwnD.off rfl rfl ?_) (fun e => absurd rfl e) (fun e => absurd rfl e) (fun y ⟨e1, e2, e3, e4, e5⟩ => ⟨e1, e2, e3, fun e6 e7 => by omega, fun e6 e7 => ?_⟩)⟩
  · rw [h.pa i (by simp; omega), List.getElem?_append_left hi]
  · rw [a5 (by omega) (by omega)]
    congr 1
    omega
  · have := e5 e6 e7
    rwa [List.getElem?_append_left (by omega)] at this
theorem pop3_next (h : DHI cs pu next m ws P T) (hx : cs[0]? = some x) (ho : x.on = true) (hp : x.push = false) (hs : x.s = 3) (hb : x.b ≤ T % 4096) : DHI (cs.set 0 { x with s := 4, t := T }) pu next (m + 1) ws P T := by
  obtain ⟨a1, a2, a3, a4, a5, a6, a7, a8, a9, a10, a11⟩ := (h.own x hx).2.2 ho hp
  refine h.quiet _ (h.ck 0 x hx) (by decide) (Nat.le_succ _) (fun _ => ⟨fun e => ?_, fun _ e => ?_, fun _ _ => ⟨a1, by show 4 ≤ 6; decide, ?_, fun _ _ => a4 (by omega) (by omega), fun _ _ => a5 (by omega) (by omega), fun _ _ => a6 (by omega) (by omega), fun _ => ⟨rfl, Nat.le_refl _⟩, fun _ => hb, ?_, ?_, ?_⟩⟩) (fun e => absurd rfl e) (fun e => absurd rfl e)
  · rw [show ({ x with s := 4, t := T } : DK).on = x.on from rfl, ho] at e; cases e
  · rw [show ({ x with s := 4, t := T } : DK).push = x.push from rfl, hp] at e; cases e
  all_goals (dsimp only; intros; omega)
theorem pop4_eq (h : DHI cs pu next m ws P T) (hx : cs[0]? = some x) (ho : x.on = true) (hp : x.push = false) (hs : x.s = 4) (hb : x.b = x.t % 4096) : DHI (cs.set 0 { x with s := 5 }) pu next (m + 1) (ws.set 0 0) P T := by
  obtain ⟨a1, a2, a3, a4, a5, a6, a7, a8, a9, a10, a11⟩ := (h.own x hx).2.2 ho hp
  have hwl := h.wl
  have htb := h.tb
  refine h.upd _ (h.ck 0 x hx) (by decide) (by simp [hwl]) (by rw [set_ne (by omega)]; exact h.tp) (by omega) h.ph (fun i hi => by rw [set_ne (by omega)]; exact h.pa i hi) h.pb
    (fun _ => ⟨fun e => ?_, fun _ e => ?_, fun _ _ => ⟨a1, by show 5 ≤ 6; decide, ?_, fun _ _ => a4 (by omega) (by omega), ?_, fun _ _ => by rw [set_ne (by omega)]; exact a6 (by omega) (by omega), fun _ => a7 (by omega), ?_, fun _ => set_eq (by omega), fun _ => hb, ?_⟩⟩) (fun e => absurd rfl e) (fun e => absurd rfl e) (fun _ e => e)
  · rw [show ({ x with s := 5 } : DK).on = x.on from rfl, ho] at e; cases e
  · rw [show ({ x with s := 5 } : DK).push = x.push from rfl, hp] at e; cases e
  all_goals (dsimp only; intros; omega)
theorem pop4_ne (h : DHI cs pu next m ws P T) (hx : cs[0]? = some x) (ho : x.on = true) (hp : x.push = false) (hs : x.s = 4) (hb : x.b ≠ x.t % 4096) : DHI (cs.set 0 { x with s := 6 }) pu next (m + 1) (ws.set 0 0) P T := by
  obtain ⟨a1, a2, a3, a4, a5, a6, a7, a8, a9, a10, a11⟩ := (h.own x hx).2.2 ho hp
  have hwl := h.wl
  have htb := h.tb
  have hb2 := a4 (by omega) (by omega)
  obtain ⟨c1, c2⟩ := a7 (by omega)
  have c3 := a8 hs
  refine h.upd _ (h.ck 0 x hx) (by decide) (by simp [hwl]) (by rw [set_ne (by omega)]; exact h.tp) (by omega) h.ph (fun i hi => by rw [set_ne (by omega)]; exact h.pa i hi) h.pb
    (fun _ => ⟨fun e => ?_, fun _ e => ?_, fun _ _ => ⟨a1, by show 6 ≤ 6; decide, ?_, ?_, ?_, ?_, fun _ => ⟨c1, c2⟩, ?_, fun _ => set_eq (by omega), ?_, fun _ => List.eq_nil_of_length_eq_zero (by omega)⟩⟩) (fun e => absurd rfl e) (fun e => absurd rfl e) (fun _ e => e)
  · rw [show ({ x with s := 6 } : DK).on = x.on from rfl, ho] at e; cases e
  · rw [show ({ x with s := 6 } : DK).push = x.push from rfl, hp] at e; cases e
  all_goals (dsimp only; intros; omega)
theorem pop5_ok (h : DHI cs pu next m ws P T) (hx : cs[0]? = some x) (ho : x.on = true) (hp : x.push = false) (hs : x.s = 5) (ht : T = x.t) : P = [x.word] ∧ DHI (cs.set 0 { x with on := false }) 0 next (m + 1) (ws.set 1 (((x.t : Int) / 4096 + 1) * 4096)) [] ((x.t / 4096 + 1) * 4096) := by
  obtain ⟨a1, a2, a3, a4, a5, a6, a7, a8, a9, a10, a11⟩ := (h.own x hx).2.2 ho hp
  have hwl := h.wl
  have htb := h.tb
  have hb2 := a4 (by omega) (by omega)
  have hb3 := a10 hs
  have hw := a6 (by omega) (by omega)
  subst ht
  refine ⟨?_, h.upd _ (h.ck 0 x hx) (by decide) (by simp [hwl]) (by rw [set_eq (by omega)]; congr 1) (by omega) (by simp) (fun i hi => absurd hi (Nat.not_lt_zero _)) (fun y hy => by cases hy) (fun _ => OwnD.off rfl rfl ?_) (fun e => absurd rfl e) (fun e => absurd rfl e) (fun y ⟨e1, e2, e3, e4, e5⟩ => ⟨e1, fun e6 => by have := e2 e6; omega, e3, fun e6 e7 => ?_, fun e6 e7 => ?_⟩)⟩
  · obtain ⟨w, rfl⟩ : ∃ w, P = [w] := List.length_eq_one_iff.1 (by omega)
    have hl := h.pa 0 (by simp)
    rw [show 2 + (x.t % 4096 + 0) = 2 + x.b by omega, hw] at hl
    have hww : x.word = w := by simpa using hl
    rw [hww]
  · rw [set_ne (by omega), a9 (by omega)]
    congr 1
    simp
  · have := e2 (by omega); omega
  · have := e2 (by omega); omega
theorem pop5_lost (h : DHI cs pu next m ws P T) (hx : cs[0]? = some x) (ho : x.on = true) (hp : x.push = false) (hs : x.s = 5) (ht : T ≠ x.t) : DHI (cs.set 0 { x with s := 6 }) pu next (m + 1) ws P T := by
  obtain ⟨a1, a2, a3, a4, a5, a6, a7, a8, a9, a10, a11⟩ := (h.own x hx).2.2 ho hp
  have hb2 := a4 (by omega) (by omega)
  have hb3 := a10 hs
  obtain ⟨c1, c2⟩ := a7 (by omega)
  refine h.quiet _ (h.ck 0 x hx) (by decide) (Nat.le_succ _) (fun _ => ⟨fun e => ?_, fun _ e => ?_, fun _ _ => ⟨a1, by show 6 ≤ 6; decide, ?_, ?_, ?_, ?_, fun _ => ⟨c1, c2⟩, ?_, fun _ => a9 (by omega), ?_, fun _ => List.eq_nil_of_length_eq_zero (by omega)⟩⟩) (fun e => absurd rfl e) (fun e => absurd rfl e)
  · rw [show ({ x with s := 6 } : DK).on = x.on from rfl, ho] at e; cases e
  · rw [show ({ x with s := 6 } : DK).push = x.push from rfl, hp] at e; cases e
  all_goals (dsimp only; intros; omega)
theorem pop6 (h : DHI cs pu next m ws P T) (hx : cs[0]? = some x) (ho : x.on = true) (hp : x.push = false) (hs : x.s = 6) : P = [] ∧ DHI (cs.set 0 { x with on := false }) 0 next (m + 1) (ws.set 1 (((x.t : Int) / 4096 + 1) * 4096)) [] ((x.t / 4096 + 1) * 4096) := by
  obtain ⟨a1, a2, a3, a4, a5, a6, a7, a8, a9, a10, a11⟩ := (h.own x hx).2.2 ho hp
  have hwl := h.wl
  have htb := h.tb
  obtain ⟨c1, c2⟩ := a7 (by omega)
  refine ⟨a11 hs, h.upd _ (h.ck 0 x hx) (by decide) (by simp [hwl]) (by rw [set_eq (by omega)]; congr 1) (by omega) (by simp) (fun i hi => absurd hi (Nat.not_lt_zero _)) (fun y hy => by cases hy) (fun _ => OwnD.off rfl rfl ?_) (fun e => absurd rfl e) (fun e => absurd rfl e) (fun y ⟨e1, e2, e3, e4, e5⟩ => ⟨e1, fun e6 => by have := e2 e6; omega, e3, fun e6 e7 => ?_, fun e6 e7 => ?_⟩)⟩
  · rw [set_ne (by omega), a9 (by omega)]
    congr 1
    simp
  · have := e2 (by omega); omega
  · have := e2 (by omega); omega
theorem st0 (h : DHI cs pu next m ws P T) (hk : 0 < k) (hk4 : k < 4) (hx : cs[k]? = some x) (ho : x.on = true) : DHI (cs.set k { x with s := 1, t := T }) pu next (m + 1) ws P T := by
  obtain ⟨a0, a1, a2, a3, a4, a5⟩ := h.th k x hk hx ho
  exact h.quiet _ (h.ck k x hx) hk4 (Nat.le_succ _) (fun e => by omega) (fun _ => rfl) (fun _ _ => ⟨a0, by show 1 ≤ 3; decide, fun _ => Nat.le_refl _, fun e => absurd e (by show ¬ 2 ≤ 1; decide), fun e => absurd e (by show ¬ 2 ≤ 1; decide), fun e => by cases e⟩)
theorem st1 (h : DHI cs pu next m ws P T) (hk : 0 < k) (hk4 : k < 4) (hx : cs[k]? = some x) (ho : x.on = true) (hs : x.s = 1) {m0 : Nat} (hm : m0 ≤ T % 4096 + P.length) (hb : x.t % 4096 < m0) : DHI (cs.set k { x with s := 2 }) pu next (m + 1) ws P T := by
  obtain ⟨a0, a1, a2, a3, a4, a5⟩ := h.th k x hk hx ho
  have hph := h.ph
  have ht := a2 (by omega)
  exact h.quiet _ (h.ck k x hx) hk4 (Nat.le_succ _) (fun e => by omega) (fun _ => rfl) (fun _ _ => ⟨a0, by show 2 ≤ 3; decide, fun _ => ht, fun _ => by show x.t % 4096 < 40; omega, fun _ (e : x.t = T) => by subst e; omega, fun e => by cases e⟩)
theorem stOff (h : DHI cs pu next m ws P T) (hk : 0 < k) (hk4 : k < 4) (hx : cs[k]? = some x) : DHI (cs.set k { x with on := false }) pu next (m + 1) ws P T :=
  h.quiet _ (h.ck k x hx) hk4 (Nat.le_succ _) (fun e => by omega) (fun _ => rfl) (fun _ e => by cases e)
theorem st2 {w : Int} (h : DHI cs pu next m ws P T) (hk : 0 < k) (hk4 : k < 4) (hx : cs[k]? = some x) (ho : x.on = true) (hs : x.s = 2) (hw : ws[2 + x.t % 4096]? = some w) : DHI (cs.set k { x with s := 3, word := w }) pu next (m + 1) ws P T := by
  obtain ⟨a0, a1, a2, a3, a4, a5⟩ := h.th k x hk hx ho
  have ht := a2 (by omega)
  have ht3 := a3 (by omega)
  refine h.quiet _ (h.ck k x hx) hk4 (Nat.le_succ _) (fun e => by omega) (fun _ => rfl) (fun _ _ => ⟨a0, Nat.le_refl _, fun _ => ht, fun _ => ht3, fun _ => a4 (by omega), fun _ (e : x.t = T) => ?_⟩)
  have h0 := a4 (by omega) e
  have hl := h.pa 0 h0
  rw [← hl, ← hw]
  congr 1
  subst e
  omega
theorem st3_ok (h : DHI cs pu next m ws P T) (hk : 0 < k) (hk4 : k < 4) (hx : cs[k]? = some x) (ho : x.on = true) (hs : x.s = 3) (ht : T = x.t) : ∃ P0, P = x.word :: P0 ∧ DHI (cs.set k { x with on := false }) pu next (m + 1) (ws.set 1 ((x.t : Int) + 1)) P0 (T + 1) := by
  obtain ⟨a0, a1, a2, a3, a4, a5⟩ := h.th k x hk hx ho
  have hwl := h.wl
  have htb := h.tb
  have hph := h.ph
  have h3 := a3 (by omega)
  have hw := a5 hs ht.symm
  subst ht
  match P, hw with
  | w :: P0, hw =>
    have hww : x.word = w := by simpa using hw.symm
    rw [List.length_cons] at hph
    refine ⟨P0, by rw [hww], h.upd _ (h.ck k x hx) hk4 (by simp [hwl]) (by rw [set_eq (by omega)]; rfl) (by omega) (by omega) (fun i hi => ?_) (fun y hy => h.pb y (.tail _ hy)) (fun e => by omega) (fun _ y hy => ?_) (fun _ e => by cases e) (fun y ⟨e1, e2, e3, e4, e5⟩ => ⟨e1, fun e6 => by have := e2 e6; omega, e3, fun e6 e7 => ?_, fun e6 e7 => ?_⟩)⟩
    · have := h.pa (i + 1) (by simp; omega)
      rw [set_ne (by omega), show 2 + ((x.t + 1) % 4096 + i) = 2 + (x.t % 4096 + (i + 1)) by omega, this]
      simp
    · obtain ⟨f1, f2, f3⟩ := hy
      have hbe : (x.t + 1) % 4096 + P0.length = x.t % 4096 + (w :: P0).length := by rw [List.length_cons]; omega
      unfold OwnD
      rw [set_ne (by omega), hbe]
      refine ⟨f1, fun g1 g2 => ?_, fun g1 g2 => ?_⟩
      · obtain ⟨b1, b2, b3, b4, b5, b6, b7⟩ := f2 g1 g2
        exact ⟨b1, b2, b3, b4, b5, b6, fun e => by rw [set_ne (by omega)]; exact b7 e⟩
      · obtain ⟨b1, b2, b3, b4, b5, b6, b7, b8, b9, b10, b11⟩ := f3 g1 g2
        refine ⟨b1, b2, b3, b4, b5, fun e1 e2 => by rw [set_ne (by omega)]; exact b6 e1 e2, fun e => by have := b7 e; omega, b8, b9, b10, fun e => by have := b11 e; cases this⟩
    · have := e2 (by omega); omega
    · have := e2 (by omega); omega
end steps
end Go.Proofs.Ytjllfgocgehpeaa
/-
  Our own, over any program: maps of whole numbers ('map[int]int') that a call has made: looked up, written, gone through.
-/
set_option linter.unusedSimpArgs false
set_option linter.unusedVariables false
namespace Go.Sep
open Go.RowKit
open Go.ChangeMaps Go.MapKept Go.WideShapes
open Go.WideElems (Fit rd rg pl rd_key rd_val rg_of other_key)
open Go.Maps (Keyed)
abbrev rI (P : Program) (e : Nat) : Value → Option (DataW Unit × List MemPlace) := plainElem (H := Unit) P e
/-- What a map's entries read as, in short. -/
abbrev datI (P : Program) (k e : Nat) (es : Array MapEntry) : DataW Unit := .map ((es.toList.map (rg P k (rI P e))).foldr DataW.insert [])
def wfI (z : Int) : Prop := (Lit.int .i64 z).wf = true
theorem wfI_of {z : Int} (h1 : -9223372036854775808 ≤ z) (h2 : z ≤ 9223372036854775807) : wfI z := by
  unfold wfI
  simp only [Lit.wf, Bool.and_eq_true, decide_eq_true_eq]
  exact ⟨h1, h2⟩
/-- Block b is a map of at most n entries: f is what it answers at each key. -/
def mapI (P : Program) (k e b n : Nat) (f : Int → Int) : HP := fun h => ∃ (es : Array MapEntry) (clock : Nat), h b = some (.map es clock) ∧ Fit P k (rI P e) es clock ∧ es.size ≤ n ∧
  ∀ z, wfI z → (datI P k e es).atKey (.int .i64 z) (.lit (.int .i64 0)) = .lit (.int .i64 (f z))
theorem Stars.mapI {P : Program} {k e b n : Nat} {f : Int → Int} {l : List HP} {H : PH} (h : Stars (Sep.mapI P k e b n f :: l) H) : ∃ (es : Array MapEntry) (clock : Nat), Stars (pt b (.map es clock) :: l) H ∧ Fit P k (rI P e) es clock ∧ es.size ≤ n ∧
    ∀ z, wfI z → (datI P k e es).atKey (.int .i64 z) (.lit (.int .i64 0)) = .lit (.int .i64 (f z)) := by
  obtain ⟨h1, h2, ap, s1, s2, ⟨es, clock, hb, F, hs, hf⟩, hl⟩ := h
  exact ⟨es, clock, ⟨h1, h2, ap, s1, s2, hb, hl⟩, F, hs, hf⟩
section ops
variable {C : Ctx} {g : Regs} {l : List HP} {T k e : Nat}
theorem plain_i (he : C.P.underlying e = some (.int .i64)) {z : Int} (hw : wfI z) : rI C.P e (.int .i64 z) = some (.lit (.int .i64 z), []) := plainElem_int he hw
theorem OL_makeMap (he : C.P.underlying e = some (.int .i64)) : OpL C g l (.makeMap T none) (fun v l' => ∃ b, v = .map (some b) ∧ l' = mapI C.P k e b 0 (fun _ => 0) :: l) :=
  ⟨(by intro c h; cases h), fun dst ty pos af gd a w hf hs K Q kk => by
    simp only [execOp, Option.map_none, Instr.makeMap, newObj, Sem.run_bind, Sem.run, Result.andThen, Pure.pure, Oper.uponIn]
    refine kk _ _ _ ⟨w.heap.size, rfl, rfl⟩ ?_
    have h1 : Sat C.W (pt w.heap.size (.map #[] 0) :: (l ++ C.fr)) (w.alloc (.map #[] 0)) := hs.alloc _
    refine h1.to fun H h => h.weak fun h2 hp => ⟨#[], 0, hp, ⟨by simp, stamped_empty 0, by simp⟩, Nat.le_refl _, fun z _ => rfl⟩⟩
theorem OQ_lookup {b n : Nat} {f : Int → Int} {m x : Operand} {key : Int} (K : Keyed C.P k) (ht : C.P.underlying T = some (.map k e)) (hk : C.P.underlying k = some (.int .i64)) (he : C.P.underlying e = some (.int .i64)) (hz : ∀ w, (zeroValue e).run C.P w = .ok (.int .i64 0) w)
    (hm : ev g m = some (.map (some b))) (hx : ev g x = some (.int .i64 key)) (hw : wfI key) (hl : mapI C.P k e b n f ∈ l) : OpQ C g l (.lookup T m x false) (.int .i64 (f key)) :=
  ⟨(by intro c h; cases h), fun dst ty pos af gd a hf w hs => by
    obtain ⟨h1, s1, es, clock, hb, F, hsz, hfz⟩ := hs.stars.mem (List.mem_append_left _ hl)
    have hb' : w.heap[b]? = some (.map es clock) := s1 _ _ hb
    have own : w.ownsMap C.P k (rI C.P e) b n (datI C.P k e es) := ⟨es, clock, hb', F, hsz, rfl⟩
    obtain ⟨c, hrun, hat, _⟩ := own.lookup_int K ht he (hz w) (Maps.keyOf_int_mk hk hw)
    rw [hfz key hw] at hat
    injection hat with hat
    injection hat with _ hat
    subst hat
    simp only [execOp, hf.ev hm, hf.ev hx, hrun, Sem.run_bind, Result.andThen, Pure.pure, Sem.run, Oper.quietUpon, and_self]⟩
theorem OL_mapUpdate {b n i : Nat} {f : Int → Int} {m x y : Operand} {key val : Int} {r : List HP} (K : Keyed C.P k) (ht : C.P.underlying T = some (.map k e)) (hk : C.P.underlying k = some (.int .i64)) (he : C.P.underlying e = some (.int .i64))
    (hm : ev g m = some (.map (some b))) (hx : ev g x = some (.int .i64 key)) (hy : ev g y = some (.int .i64 val)) (hw : wfI key) (hwv : wfI val) (hn : n < maxLen) (hi : pick1 l i = some (mapI C.P k e b n f, r)) :
    OpL C g l (.mapUpdate T m x y) (fun _ l' => l' = mapI C.P k e b (n + 1) (fun z => if z = key then val else f z) :: r) :=
  ⟨(by intro c h; cases h), fun dst ty pos af gd a w hf hs K' Q kk => by
    have hs' : Sat C.W (mapI C.P k e b n f :: (r ++ C.fr)) w := hs.perm ((pick1_perm hi).append_right _)
    obtain ⟨es, clock, hst, F, hsz, hfz⟩ := hs'.stars.mapI
    have hb' : w.heap[b]? = some (.map es clock) := hst.get
    have own : w.ownsMap C.P k (rI C.P e) b n (datI C.P k e es) := ⟨es, clock, hb', F, hsz, rfl⟩
    have hkey := Maps.keyOf_int_mk hk hw
    obtain ⟨w', hrun, own', es0, clock0, es', clock', hb0, rfl⟩ := own.store K ht hn hkey (plain_i he hwv)
    simp only [execOp, hf.ev hm, hf.ev hx, hf.ev hy, hrun, Sem.run_bind, Result.andThen, Pure.pure, Sem.run, Oper.uponIn]
    refine kk _ _ _ rfl ?_
    have h2 : Sat C.W (pt b (.map es clock) :: (r ++ C.fr)) w := ⟨hs'.os, hs'.tape, hs'.output, hst⟩
    have h3 : Sat C.W (pt b (.map es' clock') :: (r ++ C.fr)) (setBlock w b (.map es' clock')) := h2.setObj _
    obtain ⟨es2, clock2, hb2, F2, hsz2, hD2⟩ := own'
    have hbb : (setBlock w b (.map es' clock')).heap[b]? = some (.map es' clock') := h3.stars.get
    rw [hbb] at hb2
    injection hb2 with hb2
    injection hb2 with e1 e2
    subst e1 e2
    refine h3.to fun H h => h.weak fun h4 hp => ⟨es', clock', hp, F2, hsz2, fun z hz => ?_⟩
    show (datI C.P k e es').atKey _ _ = _
    rw [show datI C.P k e es' = (datI C.P k e es).put (.int .i64 key) (.lit (.int .i64 val)) from hD2.symm]
    dsimp only
    by_cases hzk : z = key
    · subst hzk
      rw [if_pos rfl]
      exact Maps.atKey_put_same ⟨_, rfl⟩ (K.key hkey) _ _
    · rw [if_neg hzk, Maps.atKey_put_other (fun h => hzk (by injection h))]
      exact hfz z hz⟩
/-- An array's zero, as a literal. -/
theorem OV_buildA0 {len el n s1 s2 : Nat} {z : List Value} (ht : look C.ti T = some ⟨.array len el, s1, s2, z⟩) (hsz : sizeAt C.ti el = some n) : OpV C g (.build T #[]) (.agg z.toArray) := by
  refine ⟨(by intro c h; cases h), fun d ty pos af gd a w hf => ?_⟩
  have hu := run_underlying (und_array (C.ok.look ht) rfl) w
  obtain ⟨zv, hz, ez⟩ := run_zero w (C.ok.look ht)
  have e : zv.cells = z.toArray := by
    have ez' : zv.cells.toList = z := ez
    rw [← ez']
  have hs : (sizeOf el).run C.P w = .ok n w := sizeAt_run hsz w
  have hrun : (Instr.build T #[]).run C.P w = .ok (.agg z.toArray) w := by
    simp only [Instr.build, Sem.run_bind, hz, Result.andThen, hu, hs, Instr.fill, e]
    rfl
  simp only [execOp, List.map_toArray, List.map_nil]
  rw [Sem.run_bind, hrun]
  rfl
/-- A range over a map is on: so many are still to come. -/
def rngI (P : Program) (k e b r n : Nat) (f : Int → Int) (cnt : Nat) : HP := fun h => ∃ (es : Array MapEntry) (clock since : Nat) (seen : Array Nat) (c0 : Nat), h b = some (.map es clock) ∧ Fit P k (rI P e) es clock ∧ es.size ≤ n ∧
  (∀ z, wfI z → (datI P k e es).atKey (.int .i64 z) (.lit (.int .i64 0)) = .lit (.int .i64 (f z))) ∧ h r = some (.mapIter (some b) since seen c0) ∧ (∀ x ∈ es.toList, x.born < since) ∧ (leftOf es seen).size = cnt ∧ since ≤ c0 ∧ since ≤ clock
/-- .. and this entry has just come out. -/
def entI (P : Program) (k e b r n : Nat) (f : Int → Int) (cnt : Nat) (key val : Value) : HP := fun h => ∃ (es : Array MapEntry) (clock since : Nat) (seen : Array Nat) (en : MapEntry), h b = some (.map es clock) ∧ Fit P k (rI P e) es clock ∧ es.size ≤ n ∧
  (∀ z, wfI z → (datI P k e es).atKey (.int .i64 z) (.lit (.int .i64 0)) = .lit (.int .i64 (f z))) ∧ h r = some (.mapIter (some b) since (seen.push en.born) clock) ∧ (∀ x ∈ es.toList, x.born < since) ∧ (leftOf es (seen.push en.born)).size = cnt ∧ since ≤ clock ∧
  en ∈ es.toList ∧ en.key = key ∧ en.val = val
theorem entI.rng {P : Program} {b r n cnt : Nat} {f : Int → Int} {key val : Value} {h : PH} (H : entI P k e b r n f cnt key val h) : rngI P k e b r n f cnt h := by
  obtain ⟨es, clock, since, seen, en, h1, h2, h3, h4, h5, h6, h7, h8, _⟩ := H
  exact ⟨es, clock, since, _, clock, h1, h2, h3, h4, h5, h6, h7, h8, h8⟩
theorem rngI.map {P : Program} {b r n cnt : Nat} {f : Int → Int} {h : PH} (H : rngI P k e b r n f cnt h) : mapI P k e b n f h := by
  obtain ⟨es, clock, since, seen, c0, h1, h2, h3, h4, _⟩ := H
  exact ⟨es, clock, h1, h2, h3, h4⟩
theorem one_star2 {p : HP} {h H : PH} (s : Sub h H) (k : p h) : Stars [p] H := ⟨h, fun _ => none, fun _ => .inr rfl, s, (fun _ _ e => by cases e), k, trivial⟩
theorem Stars.two {a b : Nat} {x y : Obj} {l : List HP} {H : PH} (h : Stars (pt a x :: pt b y :: l) H) {p : HP} (k : ∀ h, h a = some x → h b = some y → p h) : Stars (p :: l) H :=
  (Stars.shut (ps := [pt a x, pt b y]) h).weak fun h1 hp => k h1 (Stars.at hp (.head _)) (Stars.at hp (.tail _ (.head _)))
theorem Stars.untwo {a b : Nat} {x y : Obj} {l : List HP} {H : PH} (hab : a ≠ b) (h : Stars ((fun h => h a = some x ∧ h b = some y) :: l) H) : Stars (pt a x :: pt b y :: l) H := by
  refine Stars.open (ps := [pt a x, pt b y]) (h.weak fun h1 hp => ?_)
  refine ⟨fun k => if k = a then h1 k else none, fun k => if k = a then none else h1 k, fun k => ?_, fun k o e => ?_, fun k o e => ?_, ?_, ?_⟩
  · by_cases e : k = a
    · right; simp [e]
    · left; simp [e]
  · by_cases e2 : k = a
    · simpa [e2] using e
    · simp [e2] at e
  · by_cases e2 : k = a
    · simp [e2] at e
    · simpa [e2] using e
  · show (if a = a then h1 a else none) = some x
    rw [if_pos rfl]; exact hp.1
  · refine one_star2 (fun k o e => e) ?_
    show (if b = a then none else h1 b) = some y
    rw [if_neg (Ne.symm hab)]; exact hp.2
theorem OL_range {b n i : Nat} {f : Int → Int} {x : Operand} {rs : List HP} (ht : C.P.underlying T = some (.map k e)) (hx : ev g x = some (.map (some b))) (hi : pick1 l i = some (mapI C.P k e b n f, rs)) :
    OpL C g l (.range T x) (fun v l' => ∃ r cnt, v = ptr r 0 ∧ l' = rngI C.P k e b r n f cnt :: rs) :=
  ⟨(by intro c h; cases h), fun dst ty pos af gd a w hf hs K' Q kk => by
    have hs' : Sat C.W (mapI C.P k e b n f :: (rs ++ C.fr)) w := hs.perm ((pick1_perm hi).append_right _)
    obtain ⟨es, clock, hst, F, hsz, hfz⟩ := hs'.stars.mapI
    have hb' : w.heap[b]? = some (.map es clock) := hst.get
    have hrun := run_range_map (P := C.P) w T k e b es clock ht hb'
    simp only [execOp, hf.ev hx, hrun, Sem.run_bind, Result.andThen, Pure.pure, Sem.run, Oper.uponIn]
    refine kk _ _ _ ⟨w.heap.size, (leftOf es #[]).size, rfl, rfl⟩ ?_
    have h2 : Sat C.W (pt b (.map es clock) :: (rs ++ C.fr)) w := ⟨hs'.os, hs'.tape, hs'.output, hst⟩
    refine (h2.alloc (.mapIter (some b) clock #[] clock)).to fun H h => Stars.two h fun h1 e1 e2 => ⟨es, clock, clock, #[], clock, e2, F, hsz, hfz, e1, F.stamped.1, rfl, Nat.le_refl _, Nat.le_refl _⟩⟩
theorem key_int {P : Program} (hk : P.underlying k = some (.int .i64)) {v : Value} {kl : Lit} (h : keyOf P k v = some kl) : ∃ a, v = .int .i64 a ∧ kl = .int .i64 a ∧ wfI a := by
  cases v <;> simp [keyOf, hk, mapKey] at h
  obtain ⟨⟨rfl, hw⟩, rfl⟩ := h
  exact ⟨_, rfl, rfl, hw⟩
theorem OL_next {b r n i cnt : Nat} {f : Int → Int} {x : Operand} {rs : List HP} (K : Keyed C.P k) (hk : C.P.underlying k = some (.int .i64)) (he : C.P.underlying e = some (.int .i64)) (hx : ev g x = some (ptr r 0)) (hi : pick1 l i = some (rngI C.P k e b r n f cnt, rs)) :
    OpL C g l (.next x false) (fun v l' => (v = .tuple #[.bool false] ∧ l' = rngI C.P k e b r n f cnt :: rs) ∨
      ∃ key cnt', cnt' < cnt ∧ v = .tuple #[.bool true, .int .i64 key, .int .i64 (f key)] ∧ l' = entI C.P k e b r n f cnt' (.int .i64 key) (.int .i64 (f key)) :: rs) :=
  ⟨(by intro c h; cases h), fun dst ty pos af gd a w hf hs K' Q kk => by
    have hs' : Sat C.W (rngI C.P k e b r n f cnt :: (rs ++ C.fr)) w := hs.perm ((pick1_perm hi).append_right _)
    obtain ⟨h1, h2, ap, s1, s2, ⟨es, clock, since, seen, c0, hb, F, hsz, hfz, hr, hold, hc, hsc, hsk⟩, hl⟩ := hs'.stars
    have hb' : w.heap[b]? = some (.map es clock) := s1 _ _ hb
    have hr' : w.heap[r]? = some (.mapIter (some b) since seen c0) := s1 _ _ hr
    have hbr : r ≠ b := fun e => by rw [e, hb'] at hr'; cases hr'
    rcases run_next_at (P := C.P) w ty r b since c0 seen es clock hr' hb' hold hsc with ⟨h0, hrun⟩ | ⟨en, hen, w1, hal, hrun⟩
    · simp only [execOp, hf.ev hx, ptr, hrun, Sem.run_bind, Result.andThen, Pure.pure, Sem.run, Oper.uponIn]
      exact kk _ _ _ (.inl ⟨rfl, rfl⟩) hs'
    · obtain ⟨hem, hes⟩ := mem_left hen
      obtain ⟨y0, hy0⟩ := F.reads en hem
      obtain ⟨z, hz, hzd⟩ := rd_val hy0
      have hkey := rd_key hy0
      obtain ⟨key, e1, e2, hwk⟩ := key_int hk hkey
      obtain ⟨val, e3, e4, hwv⟩ := plainElem_int_inv he hz
      have hrg : (rg C.P k (rI C.P e) en).1 = y0.1 := by rw [rg_of hy0]
      have hat := (atKey_sorted (es.toList.map (rg C.P k (rI C.P e))) (Maps.fit_rising K F) y0.1 (K.key hkey)).2 (rg C.P k (rI C.P e) en) (List.mem_map.2 ⟨en, hem, rfl⟩) hrg (.lit (.int .i64 0))
      rw [rg_of hy0, hzd, e4, e2] at hat
      have hfk := hfz key hwk
      rw [show (datI C.P k e es).atKey (.int .i64 key) (.lit (.int .i64 0)) = .lit (.int .i64 val) from hat] at hfk
      injection hfk with hfk
      injection hfk with _ hfk
      subst hfk
      have hst : Stars (pt r (.mapIter (some b) since seen c0) :: pt b (.map es clock) :: (rs ++ C.fr)) (Sep.hp w) := Stars.untwo hbr ⟨h1, h2, ap, s1, s2, ⟨hr, hb⟩, hl⟩
      have hs0 : Sat C.W (pt r (.mapIter (some b) since seen c0) :: pt b (.map es clock) :: (rs ++ C.fr)) w := ⟨hs'.os, hs'.tape, hs'.output, hst⟩
      have hs1 : Sat C.W (pt r (.mapIter (some b) since seen c0) :: pt b (.map es clock) :: (rs ++ C.fr)) w1 := by rcases hal with rfl | rfl; exact hs0; exact hs0.drew
      simp only [execOp, hf.ev hx, ptr, hrun, Sem.run_bind, Result.andThen, Pure.pure, Sem.run, Oper.uponIn]
      rw [e1, e3]
      refine kk _ _ _ (.inr ⟨key, (leftOf es (seen.push en.born)).size, by rw [← hc]; exact left_shrinks es seen en hen, rfl, rfl⟩) ?_
      refine (hs1.setObj (.mapIter (some b) since (seen.push en.born) clock)).to fun H h => Stars.two h fun h1 e5 e6 => ?_
      exact ⟨es, clock, since, seen, en, e6, F, hsz, hfz, e5, hold, rfl, hsk, hem, e1, e3⟩⟩
theorem OQ_entry {b r n cnt : Nat} {f : Int → Int} {x : Operand} {key val : Value} (hx : ev g x = some (ptr r 0)) (hl : entI C.P k e b r n f cnt key val ∈ l) : OpQ C g l (.entry x) (.tuple #[key, val]) :=
  ⟨(by intro c h; cases h), fun dst ty pos af gd a hf w hs => by
    obtain ⟨h1, s1, es, clock, since, seen, en, hb, F, hsz, hfz, hr, hold, hc, hsk, hem, rfl, rfl⟩ := hs.stars.mem (List.mem_append_left _ hl)
    have hrun := run_entry_at (P := C.P) w r b since seen es clock en (s1 _ _ hr) (s1 _ _ hb) hem ((stamped_iff es clock).1 F.stamped).2.1
    simp only [execOp, hf.ev hx, ptr, hrun, Sem.run_bind, Result.andThen, Pure.pure, Sem.run, Oper.quietUpon, and_self]⟩
end ops
end Go.Sep
/-
  Our own: many things of one kind as one assertion: one out, another one in.
-/
namespace Go.Sep
/-- What each of a list owns. -/
def bigM {α : Type} (f : α → HP) (xs : List α) : HP := big (xs.map f)
theorem permM_at {α : Type} : ∀ {rs : List α} {k : Nat} {r : α}, rs[k]? = some r → rs.Perm (r :: rs.eraseIdx k)
  | [], k, r, h => by simp at h
  | x :: rs, 0, r, h => by simp at h; subst h; exact List.Perm.refl _
  | x :: rs, k + 1, r, h => ((permM_at (rs := rs) (k := k) (by simpa using h)).cons x).trans (List.Perm.swap _ _ _)
theorem permM_put {α : Type} : ∀ {rs : List α} {k : Nat} {r' : α}, k < rs.length → (r' :: rs.eraseIdx k).Perm (rs.set k r')
  | [], k, r, h => by simp at h
  | x :: rs, 0, r, h => List.Perm.refl _
  | x :: rs, k + 1, r, h => (List.Perm.swap _ _ _).trans ((permM_put (rs := rs) (k := k) (by simpa using h)).cons x)
theorem bigM.out {α : Type} {f : α → HP} {xs : List α} {k : Nat} {x : α} {l : List HP} {H : PH} (hk : xs[k]? = some x) (h : Stars (bigM f xs :: l) H) : Stars (f x :: bigM f (xs.eraseIdx k) :: l) H := by
  have h1 : Stars (xs.map f ++ l) H := h.open
  have h2 : Stars ((f x :: (xs.eraseIdx k).map f) ++ l) H := h1.perm (((permM_at hk).map f).append_right _)
  have h3 : Stars ((xs.eraseIdx k).map f ++ (f x :: l)) H := h2.perm (List.perm_middle.symm)
  exact Stars.swap (Stars.shut h3)
theorem bigM.back {α : Type} {f : α → HP} {xs : List α} {k : Nat} {x : α} {l : List HP} {H : PH} (hk : k < xs.length) (h : Stars (f x :: bigM f (xs.eraseIdx k) :: l) H) : Stars (bigM f (xs.set k x) :: l) H := by
  have h1 := (Stars.swap h).open
  have h2 : Stars ((f x :: (xs.eraseIdx k).map f) ++ l) H := h1.perm List.perm_middle
  exact Stars.shut (h2.perm (((permM_put (r' := x) hk).map f).append_right _))
theorem bigM.put {α : Type} {f : α → HP} {xs : List α} {k : Nat} {x y : α} {l : List HP} {H : PH} (hk : xs[k]? = some x) (h : Stars (f y :: bigM f xs :: l) H) : Stars (bigM f (xs.set k y) :: l) H :=
  bigM.back (List.getElem?_eq_some_iff.1 hk).1 (Stars.swap (bigM.out hk (Stars.swap h)).tail)
end Go.Sep
/-
  Our own: a deque that several use at once: what each step does (besomlaw06.DequeShared).
-/
set_option linter.unusedVariables false
set_option linter.unusedSimpArgs false
namespace Go.Proofs.Ytjllfgocgehpeaa
open Go.Sep
/-- Its next step. -/
def fnD (x : DK) : FuncId :=
  if x.k = 0 then
    if x.push = true then (match x.s with | 0 => 51 | 1 => 59 | _ => 63)
    else (match x.s with | 0 => 53 | 1 => 62 | 2 => 65 | 3 => 67 | 4 => 68 | 5 => 69 | _ => 70)
  else (match x.s with | 0 => 52 | 1 => 61 | 2 => 64 | _ => 66)
abbrev slotVD (x : DK) : Value := if x.on = true then ptr x.c 0 else .pointer none
def slotHD (p : Nat) (x : DK) : HP := if x.on = true then dcL x.c p x.k (nx (fnD x)) x.b x.t x.word 0 else fun _ => True
/-- What came of a call that is done. -/
def EndD (x : DK) (k : Nat) (w fault : Int) (P P' : List Int) : Prop :=
  (x.push = true ∧ k = 0 ∧ ((fault = 0 ∧ P' = P ++ [x.word]) ∨ (fault = 6 ∧ P' = P))) ∨
  (x.push = false ∧ ((fault = 0 ∧ w ∈ P ∧ ∀ y, P.count y = P'.count y + if y = w then 1 else 0) ∨ (w = 0 ∧ P' = P ∧ (fault = 7 ∨ (fault = 8 ∧ 0 < k)))))
theorem count_snoc (P0 : List Int) (w y : Int) : (P0 ++ [w]).count y = P0.count y + if y = w then 1 else 0 := by
  rw [List.count_append, List.count_singleton]
  by_cases e : y = w
  · subst e; simp
  · have e2 : ¬ w = y := fun h => e h.symm
    simp [e, e2]
theorem count_cons' (P0 : List Int) (w y : Int) : (w :: P0).count y = P0.count y + if y = w then 1 else 0 := by
  rw [List.count_cons]
  by_cases e : y = w
  · subst e; simp
  · have e2 : ¬ w = y := fun h => e h.symm
    simp [e, e2]
section ops
variable {p pc bw : Nat} {a : Option Addr} {cap : Nat} {ws P : List Int} {lg : List Tch} {cs : List DK} {pu next : Int} {m T : Nat} {k : Nat} {x : DK}
abbrev postD (p pc bw : Nat) (lg : List Tch) (cs : List DK) (pu next : Int) (m T k : Nat) (P : List Int) (x : DK) (v : Value) (l : List HP) : Prop :=
  ∃ a' cap' lg', lg'.length = lg.length + 1 ∧
    ((∃ x' ws', v = .bool false ∧ x'.on = true ∧ x'.c = x.c ∧ x'.k = k ∧ x'.push = x.push ∧ x.s < x'.s ∧ DHI (cs.set k x') pu next (m + 1) ws' P T ∧ l = dcL x.c p k (nx (fnD x')) x'.b x'.t x'.word 0 :: deqL p pc bw a' cap' ws' lg' 40) ∨
      (∃ b' t' w' fault ws' P' T', v = .bool true ∧ DHI (cs.set k { x with on := false }) (if k = 0 then 0 else pu) next (m + 1) ws' P' T' ∧ EndD x k w' fault P P' ∧ l = dcL x.c p k .nilFunc b' t' w' fault :: deqL p pc bw a' cap' ws' lg' 40))
theorem more_ok {lg : List Tch} {x x' : DK} {ws' : List Int} {who : Int} {v : Value} {l : List HP} (h : DHI (cs.set k x') pu next (m + 1) ws' P T) (hwho : who = (k : Int)) (hon : x'.on = true) (hc : x'.c = x.c) (hk : x'.k = k) (hp : x'.push = x.push) (hs : x.s < x'.s)
    (hl : ∃ a' cap' tc, v = .bool false ∧ l = dcL x.c p who (nx (fnD x')) x'.b x'.t x'.word 0 :: deqL p pc bw a' cap' ws' (lg ++ [tc]) 40) : postD p pc bw lg cs pu next m T k P x v l := by
  subst hwho
  obtain ⟨a', cap', tc, rfl, rfl⟩ := hl
  exact ⟨a', cap', _, by simp, .inl ⟨x', ws', rfl, hon, hc, hk, hp, hs, h, rfl⟩⟩
theorem end_ok' {lg : List Tch} {x : DK} {ws' P' : List Int} {T' : Nat} {who b' t' w' fault pu' : Int} {v : Value} {l : List HP} (hwho : who = (k : Int)) (h : DHI (cs.set k { x with on := false }) pu' next (m + 1) ws' P' T') (hpu : pu' = if k = 0 then 0 else pu) (he : EndD x k w' fault P P')
    (hl : ∃ a' cap' tc, v = .bool true ∧ l = dcL x.c p who .nilFunc b' t' w' fault :: deqL p pc bw a' cap' ws' (lg ++ [tc]) 40) : postD p pc bw lg cs pu next m T k P x v l := by
  subst hwho hpu
  obtain ⟨a', cap', tc, rfl, rfl⟩ := hl
  exact ⟨a', cap', _, by simp, .inr ⟨b', t', w', fault, ws', P', T', rfl, h, he, rfl⟩⟩
set_option maxHeartbeats 4000000 in
theorem StepDP_spec (h : DHI cs pu next m ws P T) (hx : cs[0]? = some x) (ho : x.on = true) (hp : x.push = true) (hlg : lg.length < 10000) :
    Does Try.prog 34 [ptr x.c 0] (dcL x.c p ((0 : Nat) : Int) (nx (fnD x)) x.b x.t x.word 0 :: deqL p pc bw a cap ws lg 40) (postD p pc bw lg cs pu next m T 0 P x) := by
  have hwl : ws.length = 40 + 2 := h.wl
  have hlg2 : lg.length < 100000 := by omega
  have hph := h.ph
  have hxk := h.ck 0 x hx
  obtain ⟨a1, a2, a3, a4, a5, a6, a7⟩ := (h.own x hx).2.1 ho hp
  obtain ⟨s, hs⟩ : ∃ s, x.s = s := ⟨_, rfl⟩
  have hq0 := fun hs hb => push0 h hx ho hp hs hb
  have hq1 := fun hs => push1 h hx ho hp hs
  have hq2 := fun hs => push2 h hx ho hp hs
  have hq3 := fun hb => idle0 h hx hb
  obtain ⟨xk, on, pu2, c, s2, b, t, word⟩ := x
  dsimp only at ho hp hxk hs a1 a2 a3 a4 a5 a6 a7 hq0 hq1 hq2 hq3 ⊢
  subst ho hp hxk hs
  rcases (by omega : s2 = 0 ∨ s2 = 1 ∨ s2 = 2) with rfl | rfl | rfl
  · by_cases hb : T % 4096 + P.length < 40
    · exact (StepD_more (pushLook_ok a5 hwl (by decide) (by decide) (by decide) hlg2 hb)).mono fun v l hl => more_ok (hq0 rfl hb) rfl rfl rfl rfl rfl (Nat.lt_succ_self _) hl
    · exact (StepD_end (pushLook_full a5 hwl (by decide) (by decide) (by decide) hlg2 (by omega) (by omega))).mono fun v l hl => end_ok' rfl (hq3 a5) rfl (.inl ⟨rfl, rfl, .inr ⟨rfl, rfl⟩⟩) hl
  · obtain ⟨b1, b2⟩ := a6 (by omega)
    exact (StepD_more (pushWord_ok hwl (by decide) (by decide) (by decide) hlg2 (by omega))).mono fun v l hl => more_ok (hq1 rfl) rfl rfl rfl rfl rfl (Nat.lt_succ_self _) hl
  · obtain ⟨b1, b2⟩ := a6 (by omega)
    exact (StepD_end (pushEnd_ok hwl (by decide) (by decide) (by decide) hlg2 (by omega))).mono fun v l hl => end_ok' rfl (hq2 rfl) rfl (.inl ⟨rfl, rfl, .inl ⟨rfl, rfl⟩⟩) hl
set_option maxHeartbeats 4000000 in
theorem StepDO_spec (h : DHI cs pu next m ws P T) (hm : m ≤ 100000) (hx : cs[0]? = some x) (ho : x.on = true) (hp : x.push = false) (hlg : lg.length < 10000) :
    Does Try.prog 34 [ptr x.c 0] (dcL x.c p ((0 : Nat) : Int) (nx (fnD x)) x.b x.t x.word 0 :: deqL p pc bw a cap ws lg 40) (postD p pc bw lg cs pu next m T 0 P x) := by
  have hwl : ws.length = 40 + 2 := h.wl
  have hlg2 : lg.length < 100000 := by omega
  have hph := h.ph
  have htp := h.tp
  have htb := h.tb
  have hxk := h.ck 0 x hx
  obtain ⟨a1, a2, a3, a4, a5, a6, a7, a8, a9, a10, a11⟩ := (h.own x hx).2.2 ho hp
  have hq0 := fun hs b hb => pop0 h hx ho hp hs (b := b) hb
  have hq1 := fun hs => pop1 h hx ho hp hs
  have hq2 := fun hs w hw => pop2 (w := w) h hx ho hp hs hw
  have hq3 := fun hs hb => pop3_take h hx ho hp hs hb
  have hq3n := fun hs hb => pop3_next h hx ho hp hs hb
  have hq4 := fun hs hb => pop4_eq h hx ho hp hs hb
  have hq4n := fun hs hb => pop4_ne h hx ho hp hs hb
  have hq5 := fun hs hb => pop5_ok h hx ho hp hs hb
  have hq5n := fun hs hb => pop5_lost h hx ho hp hs hb
  have hq6 := fun hs => pop6 h hx ho hp hs
  have hqi := fun hb => idle0 h hx hb
  obtain ⟨xk, on, pu2, c, s2, b, t, word⟩ := x
  dsimp only at ho hp hxk a1 a2 a3 a4 a5 a6 a7 a8 a9 a10 a11 hq0 hq1 hq2 hq3 hq3n hq4 hq4n hq5 hq5n hq6 hqi ⊢
  subst ho hp hxk
  have h0b : T / 4096 ≤ 100000 := by omega
  rcases (by omega : s2 = 0 ∨ s2 = 1 ∨ s2 = 2 ∨ s2 = 3 ∨ s2 = 4 ∨ s2 = 5 ∨ s2 = 6) with rfl | rfl | rfl | rfl | rfl | rfl | rfl
  · have a5' := a3 (by omega)
    by_cases hb : 1 ≤ T % 4096 + P.length
    · obtain ⟨b0, hb0⟩ : ∃ b0, b0 + 1 = T % 4096 + P.length := ⟨T % 4096 + P.length - 1, by omega⟩
      refine (StepD_more (popLook_ok a5' hwl (by decide) (by decide) (by decide) hlg2 hb (by omega))).mono fun v l hl => more_ok (hq0 rfl b0 hb0) rfl rfl rfl rfl rfl (Nat.lt_succ_self _) ?_
      rw [show (((T % 4096 + P.length : Nat) : Int) - 1) = (b0 : Int) by omega] at hl
      exact hl
    · have a6' := a5'
      rw [show ((T % 4096 + P.length : Nat) : Int) = 0 by omega] at a6'
      exact (StepD_end (popLook_empty a6' hwl (by decide) (by decide) (by decide) hlg2)).mono fun v l hl => end_ok' rfl (hqi a5') rfl (.inr ⟨rfl, .inr ⟨rfl, rfl, .inl rfl⟩⟩) hl
  · exact (StepD_more (popLess_ok hwl (by decide) (by decide) (by decide) hlg2)).mono fun v l hl => more_ok (hq1 rfl) rfl rfl rfl rfl rfl (Nat.lt_succ_self _) hl
  · have hb := a4 (by omega) (by omega)
    obtain ⟨w, hw⟩ : ∃ w, ws[2 + b]? = some w := ⟨ws[2 + b]'(by omega), List.getElem?_eq_getElem _⟩
    exact (StepD_more (popWord_ok (by omega) hw hwl (by decide) (by decide) (by decide) hlg2)).mono fun v l hl => more_ok (hq2 rfl w hw) rfl rfl rfl rfl rfl (Nat.lt_succ_self _) hl
  · by_cases hb : T % 4096 < b
    · obtain ⟨P0, hP, hD⟩ := hq3 rfl hb
      exact (StepD_end (popTop_more htp hwl (by decide) (by decide) (by decide) hlg2 (by omega))).mono fun v l hl => end_ok' rfl hD rfl (.inr ⟨rfl, .inl ⟨rfl, by rw [hP]; simp, fun y => by rw [hP]; exact count_snoc _ _ _⟩⟩) hl
    · exact (StepD_more (popTop_next htp hwl (by decide) (by decide) (by decide) hlg2 (by omega))).mono fun v l hl => more_ok (hq3n rfl (by omega)) rfl rfl rfl rfl rfl (Nat.lt_succ_self _) hl
  · by_cases hb : b = t % 4096
    · exact (StepD_more (popNone_eq hwl (by decide) (by decide) (by decide) hlg2 (by omega))).mono fun v l hl => more_ok (hq4 rfl hb) rfl rfl rfl rfl rfl (Nat.lt_succ_self _) hl
    · exact (StepD_more (popNone_ne hwl (by decide) (by decide) (by decide) hlg2 (by omega))).mono fun v l hl => more_ok (hq4n rfl hb) rfl rfl rfl rfl rfl (show 4 < 6 by decide) hl
  · have ht := (a7 (by omega)).2
    by_cases hb : T = t
    · obtain ⟨hP, hD⟩ := hq5 rfl hb
      exact (StepD_end (popLast_ok (by omega) (by rw [← hb]; exact htp) hwl (by decide) (by decide) (by decide) hlg2)).mono fun v l hl => end_ok' rfl hD rfl (.inr ⟨rfl, .inl ⟨rfl, by rw [hP]; simp, fun y => by rw [hP]; exact count_cons' [] _ _⟩⟩) hl
    · exact (StepD_more (popLast_lost (by omega) htp (by omega) hwl (by decide) (by decide) (by decide) hlg2)).mono fun v l hl => more_ok (hq5n rfl hb) rfl rfl rfl rfl rfl (Nat.lt_succ_self _) hl
  · have ht := (a7 (by omega)).2
    obtain ⟨hP, hD⟩ := hq6 rfl
    exact (StepD_end (popEnd_ok (by omega) hwl (by decide) (by decide) (by decide) hlg2)).mono fun v l hl => end_ok' rfl hD rfl (.inr ⟨rfl, .inr ⟨rfl, hP.symm, .inl rfl⟩⟩) hl
set_option maxHeartbeats 4000000 in
theorem StepDT_spec (h : DHI cs pu next m ws P T) (hm : m ≤ 100000) (hk : 0 < k) (hk4 : k < 4) (hx : cs[k]? = some x) (ho : x.on = true) (hlg : lg.length < 10000) :
    Does Try.prog 34 [ptr x.c 0] (dcL x.c p (k : Int) (nx (fnD x)) x.b x.t x.word 0 :: deqL p pc bw a cap ws lg 40) (postD p pc bw lg cs pu next m T k P x) := by
  have hwl : ws.length = 40 + 2 := h.wl
  have hlg2 : lg.length < 100000 := by omega
  have hph := h.ph
  have htp := h.tp
  have htb := h.tb
  have hxk := h.ck k x hx
  obtain ⟨m0, hm0, hm1⟩ := h.bot
  obtain ⟨hp, a1, a2, a3, a4, a5⟩ := h.th k x hk hx ho
  have hq0 := st0 h hk hk4 hx ho
  have hq1 := fun hs hb => st1 h hk hk4 hx ho hs hm1 hb
  have hq2 := fun hs w hw => st2 (w := w) h hk hk4 hx ho hs hw
  have hq3 := fun hs ht => st3_ok h hk hk4 hx ho hs ht
  have hqi := stOff h hk hk4 hx
  have hpu : pu = if k = 0 then 0 else pu := by rw [if_neg (by omega)]
  obtain ⟨xk, on, pu2, c, s2, b, t, word⟩ := x
  dsimp only at ho hp hxk a1 a2 a3 a4 a5 hq0 hq1 hq2 hq3 hqi ⊢
  subst ho hp hxk
  have h0b : T / 4096 ≤ 100000 := by omega
  have h4 : (0 : Int) ≤ (xk : Int) := by omega
  have h5 : (xk : Int) < 64 := by omega
  have hf : ∀ s b t w, fnD ⟨xk, true, false, c, s, b, t, w⟩ = (match s with | 0 => 52 | 1 => 61 | 2 => 64 | _ => 66) := fun s b t w => by unfold fnD; rw [if_neg (by show ¬ xk = 0; omega)]
  rcases (by omega : s2 = 0 ∨ s2 = 1 ∨ s2 = 2 ∨ s2 = 3) with rfl | rfl | rfl | rfl
  · rw [hf]
    refine (StepD_more (stealTop_ok htp hwl (by decide) h4 h5 hlg2)).mono fun v l hl => more_ok hq0 rfl rfl rfl rfl rfl (Nat.lt_succ_self _) ?_
    rw [hf]; exact hl
  · rw [hf]
    by_cases hb : t % 4096 < m0
    · refine (StepD_more (stealBottom_ok hm0 hwl (by decide) h4 h5 hlg2 (by omega))).mono fun v l hl => more_ok (hq1 rfl hb) rfl rfl rfl rfl rfl (Nat.lt_succ_self _) ?_
      rw [hf]; exact hl
    · exact (StepD_end (stealBottom_empty hm0 hwl (by decide) h4 h5 hlg2 (by omega))).mono fun v l hl => end_ok' rfl hqi hpu (.inr ⟨rfl, .inr ⟨rfl, rfl, .inl rfl⟩⟩) hl
  · rw [hf]
    have ht3 := a3 (by omega)
    obtain ⟨w, hw⟩ : ∃ w, ws[2 + t % 4096]? = some w := ⟨ws[2 + t % 4096]'(by omega), List.getElem?_eq_getElem _⟩
    refine (StepD_more (stealWord_ok (k := t % 4096) (by omega) ht3 hw hwl (by decide) h4 h5 hlg2)).mono fun v l hl => more_ok (hq2 rfl w hw) rfl rfl rfl rfl rfl (Nat.lt_succ_self _) ?_
    rw [hf]; exact hl
  · rw [hf]
    have ht := a2 (by omega)
    by_cases hb : T = t
    · obtain ⟨P0, hP, hD⟩ := hq3 rfl hb
      exact (StepD_end (stealEnd_ok (by omega) (by rw [← hb]; exact htp) hwl (by decide) h4 h5 hlg2)).mono fun v l hl => end_ok' rfl hD hpu (.inr ⟨rfl, .inl ⟨rfl, by rw [hP]; simp, fun y => by rw [hP]; exact count_cons' _ _ _⟩⟩) hl
    · exact (StepD_end (stealEnd_lost (by omega) htp (by omega) hwl (by decide) h4 h5 hlg2)).mono fun v l hl => end_ok' rfl hqi hpu (.inr ⟨rfl, .inr ⟨rfl, rfl, .inr ⟨rfl, hk⟩⟩⟩) hl
theorem StepDK_spec (h : DHI cs pu next m ws P T) (hm : m ≤ 100000) (hk4 : k < 4) (hx : cs[k]? = some x) (ho : x.on = true) (hlg : lg.length < 10000) :
    Does Try.prog 34 [ptr x.c 0] (dcL x.c p (k : Int) (nx (fnD x)) x.b x.t x.word 0 :: deqL p pc bw a cap ws lg 40) (postD p pc bw lg cs pu next m T k P x) := by
  by_cases hk : k = 0
  · subst hk
    cases hp : x.push with
    | true => exact StepDP_spec h hx ho hp hlg
    | false => exact StepDO_spec h hm hx ho hp hlg
  · exact StepDT_spec h hm (by omega) hk4 hx ho hlg
end ops
end Go.Proofs.Ytjllfgocgehpeaa
/-
  Our own: a map[int]int of this program.
-/
set_option linter.unusedVariables false
set_option linter.unusedSimpArgs false
namespace Go.Proofs.Ytjllfgocgehpeaa
open Go.Sep
open Go.Maps (Keyed)
theorem keyedI : Keyed Try.prog 3 := Maps.int_keyed Try.underlying3
theorem zeroI (w : World) : (zeroValue 3).run Try.prog w = .ok (.int .i64 0) w := by
  obtain ⟨z, hz, ez⟩ := run_zero (P := Try.prog) w (t := 3) (tiok.look (i := ⟨.int .i64, 1, 8, [.int .i64 0]⟩) rfl)
  rw [hz]
  cases z <;> simp_all [Value.cells]
abbrev mapH (b n : Nat) (f : Int → Int) : HP := mapI Try.prog 3 3 b n f
end Go.Proofs.Ytjllfgocgehpeaa
/-
  Our own: a deque that several use at once: besomlaw06.DequeShared's step.
-/
set_option linter.unusedVariables false
set_option linter.unusedSimpArgs false
namespace Go.Proofs.Ytjllfgocgehpeaa
open Go.Sep
abbrev dhBlk (b7 b8 b9 b10 bm nn : Nat) (cs : List DK) (pu next : Int) (f : Int → Int) : List HP :=
  [blk b7 (cs.map slotVD) 68, blk b8 [.int .i64 pu] 3, blk b9 [.map (some bm)] 43, blk b10 [.int .i64 next] 3, mapH bm nn f]
abbrev dhTk (b7 b8 b9 b10 : Nat) : Value := .func (.func 40) #[] #[ptr b7 0, ptr b8 0, ptr b9 0, ptr b10 0]
abbrev dhMem (p pc bw b7 b8 b9 b10 b11 bm nn : Nat) (cs : List DK) (pu next : Int) (f : Int → Int) (a : Option Addr) (cap : Nat) (ws : List Int) (lg : List Tch) : List HP :=
  bigM (slotHD p) cs :: dhBlk b7 b8 b9 b10 bm nn cs pu next f ++ (blk b11 [dhTk b7 b8 b9 b10] 44 :: deqL p pc bw a cap ws lg 40)
theorem putL_slotVD {cs : List DK} {k : Nat} (x : DK) (v : Value) (h : k < cs.length) (hv : slotVD x = v) : putL (cs.map slotVD) k [v] = some ((cs.set k x).map slotVD) := by
  subst hv
  rw [putL_split (by simp; omega)]
  congr 1
  rw [List.map_set, List.set_eq_take_append_cons_drop, if_pos (by simpa using h)]
  simp
section ops
variable {p pc bw b7 b8 b9 b10 b11 bm nn : Nat} {a : Option Addr} {cap : Nat} {ws P P' : List Int} {lg : List Tch} {cs : List DK} {pu next : Int} {f : Int → Int} {k m T : Nat} {x : DK}
set_option maxHeartbeats 16000000 in
theorem dhTake_spec {w fault bb tt : Int} (hcl : cs.length = 4) (hk4 : k < 4) (hx : cs[k]? = some x) (ho : x.on = true) (hnn : nn ≤ 10000) (hnx : 1 ≤ next ∧ next ≤ 1000) (hpl : P.length ≤ 40) (hpb : ∀ y ∈ P, 0 < y ∧ y < next)
    (hpp : x.push = true → pu = x.word ∧ 0 < x.word ∧ x.word < next) (hpq : k = 0 → x.push = false → pu = 0) (hpr : 0 ≤ pu ∧ pu < next) (hf : ∀ y, f y = (P.count y : Int)) (he : EndD x k w fault P P') :
    Does Try.prog 40 [.int .i64 k, ptr b7 0, ptr b8 0, ptr b9 0, ptr b10 0] (dcL x.c p (k : Int) .nilFunc bb tt w fault :: dhBlk b7 b8 b9 b10 bm nn cs pu next f)
    (fun v l => ∃ nn' f', nn' ≤ nn + 1 ∧ (∀ y, f' y = (P'.count y : Int)) ∧ v = .bool true ∧ l = dhBlk b7 b8 b9 b10 bm nn' (cs.set k { x with on := false }) (if k = 0 then 0 else pu) next f') := by
  have hsv : slotVD x = ptr x.c 0 := by unfold slotVD; rw [if_pos ho]
  have hcnt : ∀ (P : List Int) y, P.length ≤ 41 → 0 ≤ (P.count y : Int) ∧ (P.count y : Int) ≤ 41 := fun P y hl => by
    have : P.count y ≤ P.length := List.count_le_length
    omega
  have hfb : ∀ y, 0 ≤ f y ∧ f y ≤ 41 := fun y => by rw [hf]; exact hcnt P y (by omega)
  refine Does.of tiok Try.func40 (by kernel_rfl) rfl Try.ntmps40 rfl ?_
  intro W fr
  repeat' (first | (refine IsO ?_; first | refine JO_nil ?_ | (refine IsG ?_; first | refine G1 rfl rfl ?_ | refine G2 rfl ?_) | (refine IsMove ?_; first | refine M1 rfl rfl rfl ?_ | refine M2 rfl rfl rfl ?_ | refine M3 rfl rfl rfl ?_ | refine M4 rfl rfl rfl ?_ | refine M5 rfl rfl rfl (fun _ => ?_) (fun _ => ?_) | refine M6 rfl rfl rfl (fun _ => ?_) (fun _ => ?_)) | (refine IsBin ?_; first | refine B1 rfl rfl rfl rfl ?_ | refine B2 rfl rfl rfl rfl ?_ | refine B3 rfl rfl rfl rfl ?_ | refine B4 rfl rfl rfl rfl ?_ | refine B5 rfl rfl rfl rfl ?_ | refine B6 rfl rfl rfl rfl ?_ | refine B7 rfl rfl rfl rfl rfl ?_ | refine B8 rfl rfl rfl rfl rfl ?_ | refine B9 rfl rfl rfl rfl rfl rfl rfl ?_ | refine BA rfl rfl rfl rfl rfl rfl rfl ?_) | (refine IsConv ?_; refine C1 rfl rfl rfl rfl rfl ?_) | (refine IsLoad ?_; first | refine L1 rfl rfl rfl rfl ?_ | refine L2 rfl rfl rfl rfl rfl ?_) | (refine IsStore ?_; refine S1 rfl rfl rfl rfl rfl rfl rfl (fun _ => ?_)) | (refine IsBox ?_; refine N1 rfl rfl rfl rfl (fun _ => ?_)) | (refine IsAlloc ?_; refine N2 rfl rfl rfl rfl (fun _ => ?_)) | (refine IsBuild ?_; refine U1 rfl rfl rfl rfl rfl rfl ?_) | refine V1 rfl rfl rfl ?_) | (refine IsAt ?_; first | (with_reducible first | refine T1 ?_ | refine T2 ?_ | refine T3 ?_ | refine T4 ?_ | refine T5 ?_ | refine T6 ?_ | refine T7 ?_ | refine T8 ?_ | refine T9 ?_ | refine TA ?_ | refine TB ?_ | refine TC ?_) | ((with_reducible show At _ (PBlock _ _ (Exit.exit _)) _ _); first | refine At_block_hit ?_ | refine At_block_miss rfl ?_)) | (refine IsJ ?_; first | refine J_seq ?_ | refine J_region ?_ | refine J_block ?_ | refine J_skip ?_ | refine J_ret ?_ | refine J_exit ?_ | (refine IsCond ?_; first | refine J_cond_t rfl ?_ | refine J_cond_f rfl ?_ | refine K1 rfl ?_ | refine K2 rfl ?_ | refine K3 rfl ?_ | refine K4 rfl ?_ | refine J_cb rfl (fun _ => ?_) (fun _ => ?_) | refine J_nb rfl (fun _ => ?_) (fun _ => ?_))))
  refine JO_val (OV_idxA (off := k) rfl rfl rfl rfl (by omega) (by omega) (by simp)) rfl rfl ?_
  refine JO_q (OQ_load (v := ptr x.c 0) rfl rfl (by repeat (first | exact .head _ | refine .tail _ ?_)) (by rw [List.getElem?_map, hx, ← hsv]; rfl)) rfl rfl ?_
  repeat' (first | (refine IsO ?_; first | refine JO_nil ?_ | (refine IsG ?_; first | refine G1 rfl rfl ?_ | refine G2 rfl ?_) | (refine IsMove ?_; first | refine M1 rfl rfl rfl ?_ | refine M2 rfl rfl rfl ?_ | refine M3 rfl rfl rfl ?_ | refine M4 rfl rfl rfl ?_ | refine M5 rfl rfl rfl (fun _ => ?_) (fun _ => ?_) | refine M6 rfl rfl rfl (fun _ => ?_) (fun _ => ?_)) | (refine IsBin ?_; first | refine B1 rfl rfl rfl rfl ?_ | refine B2 rfl rfl rfl rfl ?_ | refine B3 rfl rfl rfl rfl ?_ | refine B4 rfl rfl rfl rfl ?_ | refine B5 rfl rfl rfl rfl ?_ | refine B6 rfl rfl rfl rfl ?_ | refine B7 rfl rfl rfl rfl rfl ?_ | refine B8 rfl rfl rfl rfl rfl ?_ | refine B9 rfl rfl rfl rfl rfl rfl rfl ?_ | refine BA rfl rfl rfl rfl rfl rfl rfl ?_) | (refine IsConv ?_; refine C1 rfl rfl rfl rfl rfl ?_) | (refine IsLoad ?_; first | refine L1 rfl rfl rfl rfl ?_ | refine L2 rfl rfl rfl rfl rfl ?_) | (refine IsStore ?_; refine S1 rfl rfl rfl rfl rfl rfl rfl (fun _ => ?_)) | (refine IsBox ?_; refine N1 rfl rfl rfl rfl (fun _ => ?_)) | (refine IsAlloc ?_; refine N2 rfl rfl rfl rfl (fun _ => ?_)) | (refine IsBuild ?_; refine U1 rfl rfl rfl rfl rfl rfl ?_) | refine V1 rfl rfl rfl ?_) | (refine IsAt ?_; first | (with_reducible first | refine T1 ?_ | refine T2 ?_ | refine T3 ?_ | refine T4 ?_ | refine T5 ?_ | refine T6 ?_ | refine T7 ?_ | refine T8 ?_ | refine T9 ?_ | refine TA ?_ | refine TB ?_ | refine TC ?_) | ((with_reducible show At _ (PBlock _ _ (Exit.exit _)) _ _); first | refine At_block_hit ?_ | refine At_block_miss rfl ?_)) | (refine IsJ ?_; first | refine J_seq ?_ | refine J_region ?_ | refine J_block ?_ | refine J_skip ?_ | refine J_ret ?_ | refine J_exit ?_ | (refine IsCond ?_; first | refine J_cond_t rfl ?_ | refine J_cond_f rfl ?_ | refine K1 rfl ?_ | refine K2 rfl ?_ | refine K3 rfl ?_ | refine K4 rfl ?_ | refine J_cb rfl (fun _ => ?_) (fun _ => ?_) | refine J_nb rfl (fun _ => ?_) (fun _ => ?_))))
  refine JO_l (OL_call [0] rfl rfl rfl (ResultD_t) rfl) rfl rfl ?_; rintro _ _ ⟨_, ⟨rfl, rfl⟩, rfl⟩
  repeat' (first | (refine IsO ?_; first | refine JO_nil ?_ | (refine IsG ?_; first | refine G1 rfl rfl ?_ | refine G2 rfl ?_) | (refine IsMove ?_; first | refine M1 rfl rfl rfl ?_ | refine M2 rfl rfl rfl ?_ | refine M3 rfl rfl rfl ?_ | refine M4 rfl rfl rfl ?_ | refine M5 rfl rfl rfl (fun _ => ?_) (fun _ => ?_) | refine M6 rfl rfl rfl (fun _ => ?_) (fun _ => ?_)) | (refine IsBin ?_; first | refine B1 rfl rfl rfl rfl ?_ | refine B2 rfl rfl rfl rfl ?_ | refine B3 rfl rfl rfl rfl ?_ | refine B4 rfl rfl rfl rfl ?_ | refine B5 rfl rfl rfl rfl ?_ | refine B6 rfl rfl rfl rfl ?_ | refine B7 rfl rfl rfl rfl rfl ?_ | refine B8 rfl rfl rfl rfl rfl ?_ | refine B9 rfl rfl rfl rfl rfl rfl rfl ?_ | refine BA rfl rfl rfl rfl rfl rfl rfl ?_) | (refine IsConv ?_; refine C1 rfl rfl rfl rfl rfl ?_) | (refine IsLoad ?_; first | refine L1 rfl rfl rfl rfl ?_ | refine L2 rfl rfl rfl rfl rfl ?_) | (refine IsStore ?_; refine S1 rfl rfl rfl rfl rfl rfl rfl (fun _ => ?_)) | (refine IsBox ?_; refine N1 rfl rfl rfl rfl (fun _ => ?_)) | (refine IsAlloc ?_; refine N2 rfl rfl rfl rfl (fun _ => ?_)) | (refine IsBuild ?_; refine U1 rfl rfl rfl rfl rfl rfl ?_) | refine V1 rfl rfl rfl ?_) | (refine IsAt ?_; first | (with_reducible first | refine T1 ?_ | refine T2 ?_ | refine T3 ?_ | refine T4 ?_ | refine T5 ?_ | refine T6 ?_ | refine T7 ?_ | refine T8 ?_ | refine T9 ?_ | refine TA ?_ | refine TB ?_ | refine TC ?_) | ((with_reducible show At _ (PBlock _ _ (Exit.exit _)) _ _); first | refine At_block_hit ?_ | refine At_block_miss rfl ?_)) | (refine IsJ ?_; first | refine J_seq ?_ | refine J_region ?_ | refine J_block ?_ | refine J_skip ?_ | refine J_ret ?_ | refine J_exit ?_ | (refine IsCond ?_; first | refine J_cond_t rfl ?_ | refine J_cond_f rfl ?_ | refine K1 rfl ?_ | refine K2 rfl ?_ | refine K3 rfl ?_ | refine K4 rfl ?_ | refine J_cb rfl (fun _ => ?_) (fun _ => ?_) | refine J_nb rfl (fun _ => ?_) (fun _ => ?_))))
  refine JO_val (OV_idxA (off := k) rfl rfl rfl rfl (by omega) (by omega) (by simp)) rfl rfl ?_
  refine JO_l0 (OL_store rfl rfl rfl rfl rfl rfl (i := 1) rfl (putL_slotVD { x with on := false } (.pointer none) (by omega) rfl)) rfl ?_
  rintro _ _ rfl
  rcases he with ⟨hp, rfl, hend⟩ | ⟨hp, hend⟩
  · obtain ⟨rfl, hw0, hw1⟩ := hpp hp
    have hwf : wfI x.word := wfI_of (by omega) (by omega)
    have hfx := hfb x.word
    rcases hend with ⟨rfl, rfl⟩ | ⟨rfl, rfl⟩
    · repeat' (first | (refine IsO ?_; first | refine JO_nil ?_ | (refine IsG ?_; first | refine G1 rfl rfl ?_ | refine G2 rfl ?_) | (refine IsMove ?_; first | refine M1 rfl rfl rfl ?_ | refine M2 rfl rfl rfl ?_ | refine M3 rfl rfl rfl ?_ | refine M4 rfl rfl rfl ?_ | refine M5 rfl rfl rfl (fun _ => ?_) (fun _ => ?_) | refine M6 rfl rfl rfl (fun _ => ?_) (fun _ => ?_)) | (refine IsBin ?_; first | refine B1 rfl rfl rfl rfl ?_ | refine B2 rfl rfl rfl rfl ?_ | refine B3 rfl rfl rfl rfl ?_ | refine B4 rfl rfl rfl rfl ?_ | refine B5 rfl rfl rfl rfl ?_ | refine B6 rfl rfl rfl rfl ?_ | refine B7 rfl rfl rfl rfl rfl ?_ | refine B8 rfl rfl rfl rfl rfl ?_ | refine B9 rfl rfl rfl rfl rfl rfl rfl ?_ | refine BA rfl rfl rfl rfl rfl rfl rfl ?_) | (refine IsConv ?_; refine C1 rfl rfl rfl rfl rfl ?_) | (refine IsLoad ?_; first | refine L1 rfl rfl rfl rfl ?_ | refine L2 rfl rfl rfl rfl rfl ?_) | (refine IsStore ?_; refine S1 rfl rfl rfl rfl rfl rfl rfl (fun _ => ?_)) | (refine IsBox ?_; refine N1 rfl rfl rfl rfl (fun _ => ?_)) | (refine IsAlloc ?_; refine N2 rfl rfl rfl rfl (fun _ => ?_)) | (refine IsBuild ?_; refine U1 rfl rfl rfl rfl rfl rfl ?_) | refine V1 rfl rfl rfl ?_) | (refine IsAt ?_; first | (with_reducible first | refine T1 ?_ | refine T2 ?_ | refine T3 ?_ | refine T4 ?_ | refine T5 ?_ | refine T6 ?_ | refine T7 ?_ | refine T8 ?_ | refine T9 ?_ | refine TA ?_ | refine TB ?_ | refine TC ?_) | ((with_reducible show At _ (PBlock _ _ (Exit.exit _)) _ _); first | refine At_block_hit ?_ | refine At_block_miss rfl ?_)) | (refine IsJ ?_; first | refine J_seq ?_ | refine J_region ?_ | refine J_block ?_ | refine J_skip ?_ | refine J_ret ?_ | refine J_exit ?_ | (refine IsCond ?_; first | refine J_cond_t rfl ?_ | refine J_cond_f rfl ?_ | refine K1 rfl ?_ | refine K2 rfl ?_ | refine K3 rfl ?_ | refine K4 rfl ?_ | refine J_cb rfl (fun _ => ?_) (fun _ => ?_) | refine J_nb rfl (fun _ => ?_) (fun _ => ?_))))
      refine JO_q (OQ_lookup keyedI Try.underlying43 Try.underlying3 Try.underlying3 zeroI rfl rfl hwf (by repeat (first | exact .head _ | refine .tail _ ?_))) rfl rfl ?_
      repeat' (first | (refine IsO ?_; first | refine JO_nil ?_ | (refine IsG ?_; first | refine G1 rfl rfl ?_ | refine G2 rfl ?_) | (refine IsMove ?_; first | refine M1 rfl rfl rfl ?_ | refine M2 rfl rfl rfl ?_ | refine M3 rfl rfl rfl ?_ | refine M4 rfl rfl rfl ?_ | refine M5 rfl rfl rfl (fun _ => ?_) (fun _ => ?_) | refine M6 rfl rfl rfl (fun _ => ?_) (fun _ => ?_)) | (refine IsBin ?_; first | refine B1 rfl rfl rfl rfl ?_ | refine B2 rfl rfl rfl rfl ?_ | refine B3 rfl rfl rfl rfl ?_ | refine B4 rfl rfl rfl rfl ?_ | refine B5 rfl rfl rfl rfl ?_ | refine B6 rfl rfl rfl rfl ?_ | refine B7 rfl rfl rfl rfl rfl ?_ | refine B8 rfl rfl rfl rfl rfl ?_ | refine B9 rfl rfl rfl rfl rfl rfl rfl ?_ | refine BA rfl rfl rfl rfl rfl rfl rfl ?_) | (refine IsConv ?_; refine C1 rfl rfl rfl rfl rfl ?_) | (refine IsLoad ?_; first | refine L1 rfl rfl rfl rfl ?_ | refine L2 rfl rfl rfl rfl rfl ?_) | (refine IsStore ?_; refine S1 rfl rfl rfl rfl rfl rfl rfl (fun _ => ?_)) | (refine IsBox ?_; refine N1 rfl rfl rfl rfl (fun _ => ?_)) | (refine IsAlloc ?_; refine N2 rfl rfl rfl rfl (fun _ => ?_)) | (refine IsBuild ?_; refine U1 rfl rfl rfl rfl rfl rfl ?_) | refine V1 rfl rfl rfl ?_) | (refine IsAt ?_; first | (with_reducible first | refine T1 ?_ | refine T2 ?_ | refine T3 ?_ | refine T4 ?_ | refine T5 ?_ | refine T6 ?_ | refine T7 ?_ | refine T8 ?_ | refine T9 ?_ | refine TA ?_ | refine TB ?_ | refine TC ?_) | ((with_reducible show At _ (PBlock _ _ (Exit.exit _)) _ _); first | refine At_block_hit ?_ | refine At_block_miss rfl ?_)) | (refine IsJ ?_; first | refine J_seq ?_ | refine J_region ?_ | refine J_block ?_ | refine J_skip ?_ | refine J_ret ?_ | refine J_exit ?_ | (refine IsCond ?_; first | refine J_cond_t rfl ?_ | refine J_cond_f rfl ?_ | refine K1 rfl ?_ | refine K2 rfl ?_ | refine K3 rfl ?_ | refine K4 rfl ?_ | refine J_cb rfl (fun _ => ?_) (fun _ => ?_) | refine J_nb rfl (fun _ => ?_) (fun _ => ?_))))
      refine JO_l0 (OL_mapUpdate (i := 5) keyedI Try.underlying43 Try.underlying3 Try.underlying3 rfl rfl rfl hwf (wfI_of (by omega) (by omega)) (Nat.lt_of_le_of_lt hnn (by decide)) rfl) rfl ?_
      rintro _ _ rfl
      repeat' (first | (refine IsO ?_; first | refine JO_nil ?_ | (refine IsG ?_; first | refine G1 rfl rfl ?_ | refine G2 rfl ?_) | (refine IsMove ?_; first | refine M1 rfl rfl rfl ?_ | refine M2 rfl rfl rfl ?_ | refine M3 rfl rfl rfl ?_ | refine M4 rfl rfl rfl ?_ | refine M5 rfl rfl rfl (fun _ => ?_) (fun _ => ?_) | refine M6 rfl rfl rfl (fun _ => ?_) (fun _ => ?_)) | (refine IsBin ?_; first | refine B1 rfl rfl rfl rfl ?_ | refine B2 rfl rfl rfl rfl ?_ | refine B3 rfl rfl rfl rfl ?_ | refine B4 rfl rfl rfl rfl ?_ | refine B5 rfl rfl rfl rfl ?_ | refine B6 rfl rfl rfl rfl ?_ | refine B7 rfl rfl rfl rfl rfl ?_ | refine B8 rfl rfl rfl rfl rfl ?_ | refine B9 rfl rfl rfl rfl rfl rfl rfl ?_ | refine BA rfl rfl rfl rfl rfl rfl rfl ?_) | (refine IsConv ?_; refine C1 rfl rfl rfl rfl rfl ?_) | (refine IsLoad ?_; first | refine L1 rfl rfl rfl rfl ?_ | refine L2 rfl rfl rfl rfl rfl ?_) | (refine IsStore ?_; refine S1 rfl rfl rfl rfl rfl rfl rfl (fun _ => ?_)) | (refine IsBox ?_; refine N1 rfl rfl rfl rfl (fun _ => ?_)) | (refine IsAlloc ?_; refine N2 rfl rfl rfl rfl (fun _ => ?_)) | (refine IsBuild ?_; refine U1 rfl rfl rfl rfl rfl rfl ?_) | refine V1 rfl rfl rfl ?_) | (refine IsAt ?_; first | (with_reducible first | refine T1 ?_ | refine T2 ?_ | refine T3 ?_ | refine T4 ?_ | refine T5 ?_ | refine T6 ?_ | refine T7 ?_ | refine T8 ?_ | refine T9 ?_ | refine TA ?_ | refine TB ?_ | refine TC ?_) | ((with_reducible show At _ (PBlock _ _ (Exit.exit _)) _ _); first | refine At_block_hit ?_ | refine At_block_miss rfl ?_)) | (refine IsJ ?_; first | refine J_seq ?_ | refine J_region ?_ | refine J_block ?_ | refine J_skip ?_ | refine J_ret ?_ | refine J_exit ?_ | (refine IsCond ?_; first | refine J_cond_t rfl ?_ | refine J_cond_f rfl ?_ | refine K1 rfl ?_ | refine K2 rfl ?_ | refine K3 rfl ?_ | refine K4 rfl ?_ | refine J_cb rfl (fun _ => ?_) (fun _ => ?_) | refine J_nb rfl (fun _ => ?_) (fun _ => ?_))))
      refine At_ret rfl rfl (.tmp rfl .nil) rfl (is := [2, 0, 2, 2, 0]) rfl ⟨nn + 1, _, Nat.le_refl _, fun y => ?_, rfl, rfl⟩
      rw [count_snoc]
      by_cases e : y = x.word
      · rw [if_pos e, if_pos e, e, hf]; rfl
      · rw [if_neg e, if_neg e, hf]; rfl
    · repeat' (first | (refine IsO ?_; first | refine JO_nil ?_ | (refine IsG ?_; first | refine G1 rfl rfl ?_ | refine G2 rfl ?_) | (refine IsMove ?_; first | refine M1 rfl rfl rfl ?_ | refine M2 rfl rfl rfl ?_ | refine M3 rfl rfl rfl ?_ | refine M4 rfl rfl rfl ?_ | refine M5 rfl rfl rfl (fun _ => ?_) (fun _ => ?_) | refine M6 rfl rfl rfl (fun _ => ?_) (fun _ => ?_)) | (refine IsBin ?_; first | refine B1 rfl rfl rfl rfl ?_ | refine B2 rfl rfl rfl rfl ?_ | refine B3 rfl rfl rfl rfl ?_ | refine B4 rfl rfl rfl rfl ?_ | refine B5 rfl rfl rfl rfl ?_ | refine B6 rfl rfl rfl rfl ?_ | refine B7 rfl rfl rfl rfl rfl ?_ | refine B8 rfl rfl rfl rfl rfl ?_ | refine B9 rfl rfl rfl rfl rfl rfl rfl ?_ | refine BA rfl rfl rfl rfl rfl rfl rfl ?_) | (refine IsConv ?_; refine C1 rfl rfl rfl rfl rfl ?_) | (refine IsLoad ?_; first | refine L1 rfl rfl rfl rfl ?_ | refine L2 rfl rfl rfl rfl rfl ?_) | (refine IsStore ?_; refine S1 rfl rfl rfl rfl rfl rfl rfl (fun _ => ?_)) | (refine IsBox ?_; refine N1 rfl rfl rfl rfl (fun _ => ?_)) | (refine IsAlloc ?_; refine N2 rfl rfl rfl rfl (fun _ => ?_)) | (refine IsBuild ?_; refine U1 rfl rfl rfl rfl rfl rfl ?_) | refine V1 rfl rfl rfl ?_) | (refine IsAt ?_; first | (with_reducible first | refine T1 ?_ | refine T2 ?_ | refine T3 ?_ | refine T4 ?_ | refine T5 ?_ | refine T6 ?_ | refine T7 ?_ | refine T8 ?_ | refine T9 ?_ | refine TA ?_ | refine TB ?_ | refine TC ?_) | ((with_reducible show At _ (PBlock _ _ (Exit.exit _)) _ _); first | refine At_block_hit ?_ | refine At_block_miss rfl ?_)) | (refine IsJ ?_; first | refine J_seq ?_ | refine J_region ?_ | refine J_block ?_ | refine J_skip ?_ | refine J_ret ?_ | refine J_exit ?_ | (refine IsCond ?_; first | refine J_cond_t rfl ?_ | refine J_cond_f rfl ?_ | refine K1 rfl ?_ | refine K2 rfl ?_ | refine K3 rfl ?_ | refine K4 rfl ?_ | refine J_cb rfl (fun _ => ?_) (fun _ => ?_) | refine J_nb rfl (fun _ => ?_) (fun _ => ?_))))
      exact At_ret rfl rfl (.tmp rfl .nil) rfl (is := [1, 0, 1, 1, 1]) rfl ⟨nn, f, Nat.le_succ _, hf, rfl, rfl⟩
  · have hpu : (if k = 0 then 0 else pu) = pu := by
      by_cases e : k = 0
      · rw [if_pos e, hpq e hp]
      · rw [if_neg e]
    rcases hend with ⟨rfl, hwP, hcount⟩ | ⟨rfl, rfl, hfault⟩
    · obtain ⟨hw0, hw1⟩ := hpb w hwP
      have hwf : wfI w := wfI_of (by omega) (by omega)
      have hfx := hfb w
      rcases (show (0 < pu ∧ ¬ (k : Int) = 0) ∨ ¬ 0 < pu by by_cases e : k = 0; right; rw [hpq e hp]; decide; omega) with ⟨h1, h2⟩ | h1
      · repeat' (first | (refine IsO ?_; first | refine JO_nil ?_ | (refine IsG ?_; first | refine G1 rfl rfl ?_ | refine G2 rfl ?_) | (refine IsMove ?_; first | refine M1 rfl rfl rfl ?_ | refine M2 rfl rfl rfl ?_ | refine M3 rfl rfl rfl ?_ | refine M4 rfl rfl rfl ?_ | refine M5 rfl rfl rfl (fun _ => ?_) (fun _ => ?_) | refine M6 rfl rfl rfl (fun _ => ?_) (fun _ => ?_)) | (refine IsBin ?_; first | refine B1 rfl rfl rfl rfl ?_ | refine B2 rfl rfl rfl rfl ?_ | refine B3 rfl rfl rfl rfl ?_ | refine B4 rfl rfl rfl rfl ?_ | refine B5 rfl rfl rfl rfl ?_ | refine B6 rfl rfl rfl rfl ?_ | refine B7 rfl rfl rfl rfl rfl ?_ | refine B8 rfl rfl rfl rfl rfl ?_ | refine B9 rfl rfl rfl rfl rfl rfl rfl ?_ | refine BA rfl rfl rfl rfl rfl rfl rfl ?_) | (refine IsConv ?_; refine C1 rfl rfl rfl rfl rfl ?_) | (refine IsLoad ?_; first | refine L1 rfl rfl rfl rfl ?_ | refine L2 rfl rfl rfl rfl rfl ?_) | (refine IsStore ?_; refine S1 rfl rfl rfl rfl rfl rfl rfl (fun _ => ?_)) | (refine IsBox ?_; refine N1 rfl rfl rfl rfl (fun _ => ?_)) | (refine IsAlloc ?_; refine N2 rfl rfl rfl rfl (fun _ => ?_)) | (refine IsBuild ?_; refine U1 rfl rfl rfl rfl rfl rfl ?_) | refine V1 rfl rfl rfl ?_) | (refine IsAt ?_; first | (with_reducible first | refine T1 ?_ | refine T2 ?_ | refine T3 ?_ | refine T4 ?_ | refine T5 ?_ | refine T6 ?_ | refine T7 ?_ | refine T8 ?_ | refine T9 ?_ | refine TA ?_ | refine TB ?_ | refine TC ?_) | ((with_reducible show At _ (PBlock _ _ (Exit.exit _)) _ _); first | refine At_block_hit ?_ | refine At_block_miss rfl ?_)) | (refine IsJ ?_; first | refine J_seq ?_ | refine J_region ?_ | refine J_block ?_ | refine J_skip ?_ | refine J_ret ?_ | refine J_exit ?_ | (refine IsCond ?_; first | refine J_cond_t rfl ?_ | refine J_cond_f rfl ?_ | refine K1 rfl ?_ | refine K2 rfl ?_ | refine K3 rfl ?_ | refine K4 rfl ?_ | refine J_cb rfl (fun _ => ?_) (fun _ => ?_) | refine J_nb rfl (fun _ => ?_) (fun _ => ?_))))
        refine JO_q (OQ_lookup keyedI Try.underlying43 Try.underlying3 Try.underlying3 zeroI rfl rfl hwf (by repeat (first | exact .head _ | refine .tail _ ?_))) rfl rfl ?_
        repeat' (first | (refine IsO ?_; first | refine JO_nil ?_ | (refine IsG ?_; first | refine G1 rfl rfl ?_ | refine G2 rfl ?_) | (refine IsMove ?_; first | refine M1 rfl rfl rfl ?_ | refine M2 rfl rfl rfl ?_ | refine M3 rfl rfl rfl ?_ | refine M4 rfl rfl rfl ?_ | refine M5 rfl rfl rfl (fun _ => ?_) (fun _ => ?_) | refine M6 rfl rfl rfl (fun _ => ?_) (fun _ => ?_)) | (refine IsBin ?_; first | refine B1 rfl rfl rfl rfl ?_ | refine B2 rfl rfl rfl rfl ?_ | refine B3 rfl rfl rfl rfl ?_ | refine B4 rfl rfl rfl rfl ?_ | refine B5 rfl rfl rfl rfl ?_ | refine B6 rfl rfl rfl rfl ?_ | refine B7 rfl rfl rfl rfl rfl ?_ | refine B8 rfl rfl rfl rfl rfl ?_ | refine B9 rfl rfl rfl rfl rfl rfl rfl ?_ | refine BA rfl rfl rfl rfl rfl rfl rfl ?_) | (refine IsConv ?_; refine C1 rfl rfl rfl rfl rfl ?_) | (refine IsLoad ?_; first | refine L1 rfl rfl rfl rfl ?_ | refine L2 rfl rfl rfl rfl rfl ?_) | (refine IsStore ?_; refine S1 rfl rfl rfl rfl rfl rfl rfl (fun _ => ?_)) | (refine IsBox ?_; refine N1 rfl rfl rfl rfl (fun _ => ?_)) | (refine IsAlloc ?_; refine N2 rfl rfl rfl rfl (fun _ => ?_)) | (refine IsBuild ?_; refine U1 rfl rfl rfl rfl rfl rfl ?_) | refine V1 rfl rfl rfl ?_) | (refine IsAt ?_; first | (with_reducible first | refine T1 ?_ | refine T2 ?_ | refine T3 ?_ | refine T4 ?_ | refine T5 ?_ | refine T6 ?_ | refine T7 ?_ | refine T8 ?_ | refine T9 ?_ | refine TA ?_ | refine TB ?_ | refine TC ?_) | ((with_reducible show At _ (PBlock _ _ (Exit.exit _)) _ _); first | refine At_block_hit ?_ | refine At_block_miss rfl ?_)) | (refine IsJ ?_; first | refine J_seq ?_ | refine J_region ?_ | refine J_block ?_ | refine J_skip ?_ | refine J_ret ?_ | refine J_exit ?_ | (refine IsCond ?_; first | refine J_cond_t rfl ?_ | refine J_cond_f rfl ?_ | refine K1 rfl ?_ | refine K2 rfl ?_ | refine K3 rfl ?_ | refine K4 rfl ?_ | refine J_cb rfl (fun _ => ?_) (fun _ => ?_) | refine J_nb rfl (fun _ => ?_) (fun _ => ?_))))
        refine JO_l0 (OL_mapUpdate (i := 5) keyedI Try.underlying43 Try.underlying3 Try.underlying3 rfl rfl rfl hwf (wfI_of (by omega) (by omega)) (Nat.lt_of_le_of_lt hnn (by decide)) rfl) rfl ?_
        rintro _ _ rfl
        repeat' (first | (refine IsO ?_; first | refine JO_nil ?_ | (refine IsG ?_; first | refine G1 rfl rfl ?_ | refine G2 rfl ?_) | (refine IsMove ?_; first | refine M1 rfl rfl rfl ?_ | refine M2 rfl rfl rfl ?_ | refine M3 rfl rfl rfl ?_ | refine M4 rfl rfl rfl ?_ | refine M5 rfl rfl rfl (fun _ => ?_) (fun _ => ?_) | refine M6 rfl rfl rfl (fun _ => ?_) (fun _ => ?_)) | (refine IsBin ?_; first | refine B1 rfl rfl rfl rfl ?_ | refine B2 rfl rfl rfl rfl ?_ | refine B3 rfl rfl rfl rfl ?_ | refine B4 rfl rfl rfl rfl ?_ | refine B5 rfl rfl rfl rfl ?_ | refine B6 rfl rfl rfl rfl ?_ | refine B7 rfl rfl rfl rfl rfl ?_ | refine B8 rfl rfl rfl rfl rfl ?_ | refine B9 rfl rfl rfl rfl rfl rfl rfl ?_ | refine BA rfl rfl rfl rfl rfl rfl rfl ?_) | (refine IsConv ?_; refine C1 rfl rfl rfl rfl rfl ?_) | (refine IsLoad ?_; first | refine L1 rfl rfl rfl rfl ?_ | refine L2 rfl rfl rfl rfl rfl ?_) | (refine IsStore ?_; refine S1 rfl rfl rfl rfl rfl rfl rfl (fun _ => ?_)) | (refine IsBox ?_; refine N1 rfl rfl rfl rfl (fun _ => ?_)) | (refine IsAlloc ?_; refine N2 rfl rfl rfl rfl (fun _ => ?_)) | (refine IsBuild ?_; refine U1 rfl rfl rfl rfl rfl rfl ?_) | refine V1 rfl rfl rfl ?_) | (refine IsAt ?_; first | (with_reducible first | refine T1 ?_ | refine T2 ?_ | refine T3 ?_ | refine T4 ?_ | refine T5 ?_ | refine T6 ?_ | refine T7 ?_ | refine T8 ?_ | refine T9 ?_ | refine TA ?_ | refine TB ?_ | refine TC ?_) | ((with_reducible show At _ (PBlock _ _ (Exit.exit _)) _ _); first | refine At_block_hit ?_ | refine At_block_miss rfl ?_)) | (refine IsJ ?_; first | refine J_seq ?_ | refine J_region ?_ | refine J_block ?_ | refine J_skip ?_ | refine J_ret ?_ | refine J_exit ?_ | (refine IsCond ?_; first | refine J_cond_t rfl ?_ | refine J_cond_f rfl ?_ | refine K1 rfl ?_ | refine K2 rfl ?_ | refine K3 rfl ?_ | refine K4 rfl ?_ | refine J_cb rfl (fun _ => ?_) (fun _ => ?_) | refine J_nb rfl (fun _ => ?_) (fun _ => ?_))))
        refine JO_q (OQ_lookup keyedI Try.underlying43 Try.underlying3 Try.underlying3 zeroI rfl rfl hwf (by repeat (first | exact .head _ | refine .tail _ ?_))) rfl rfl ?_
        rw [if_pos rfl]
        repeat' (first | (refine IsO ?_; first | refine JO_nil ?_ | (refine IsG ?_; first | refine G1 rfl rfl ?_ | refine G2 rfl ?_) | (refine IsMove ?_; first | refine M1 rfl rfl rfl ?_ | refine M2 rfl rfl rfl ?_ | refine M3 rfl rfl rfl ?_ | refine M4 rfl rfl rfl ?_ | refine M5 rfl rfl rfl (fun _ => ?_) (fun _ => ?_) | refine M6 rfl rfl rfl (fun _ => ?_) (fun _ => ?_)) | (refine IsBin ?_; first | refine B1 rfl rfl rfl rfl ?_ | refine B2 rfl rfl rfl rfl ?_ | refine B3 rfl rfl rfl rfl ?_ | refine B4 rfl rfl rfl rfl ?_ | refine B5 rfl rfl rfl rfl ?_ | refine B6 rfl rfl rfl rfl ?_ | refine B7 rfl rfl rfl rfl rfl ?_ | refine B8 rfl rfl rfl rfl rfl ?_ | refine B9 rfl rfl rfl rfl rfl rfl rfl ?_ | refine BA rfl rfl rfl rfl rfl rfl rfl ?_) | (refine IsConv ?_; refine C1 rfl rfl rfl rfl rfl ?_) | (refine IsLoad ?_; first | refine L1 rfl rfl rfl rfl ?_ | refine L2 rfl rfl rfl rfl rfl ?_) | (refine IsStore ?_; refine S1 rfl rfl rfl rfl rfl rfl rfl (fun _ => ?_)) | (refine IsBox ?_; refine N1 rfl rfl rfl rfl (fun _ => ?_)) | (refine IsAlloc ?_; refine N2 rfl rfl rfl rfl (fun _ => ?_)) | (refine IsBuild ?_; refine U1 rfl rfl rfl rfl rfl rfl ?_) | refine V1 rfl rfl rfl ?_) | (refine IsAt ?_; first | (with_reducible first | refine T1 ?_ | refine T2 ?_ | refine T3 ?_ | refine T4 ?_ | refine T5 ?_ | refine T6 ?_ | refine T7 ?_ | refine T8 ?_ | refine T9 ?_ | refine TA ?_ | refine TB ?_ | refine TC ?_) | ((with_reducible show At _ (PBlock _ _ (Exit.exit _)) _ _); first | refine At_block_hit ?_ | refine At_block_miss rfl ?_)) | (refine IsJ ?_; first | refine J_seq ?_ | refine J_region ?_ | refine J_block ?_ | refine J_skip ?_ | refine J_ret ?_ | refine J_exit ?_ | (refine IsCond ?_; first | refine J_cond_t rfl ?_ | refine J_cond_f rfl ?_ | refine K1 rfl ?_ | refine K2 rfl ?_ | refine K3 rfl ?_ | refine K4 rfl ?_ | refine J_cb rfl (fun _ => ?_) (fun _ => ?_) | refine J_nb rfl (fun _ => ?_) (fun _ => ?_))))
        refine At_ret rfl rfl (.tmp rfl .nil) rfl (is := [1, 2, 2, 2, 0]) rfl ⟨nn + 1, _, Nat.le_refl _, fun y => ?_, congrArg Value.bool (decide_eq_true hw1), by rw [hpu]⟩
        have e1 := hcount y
        have e2 := hf y
        by_cases e : y = w
        · rw [if_pos e] at e1 ⊢
          rw [← e]
          omega
        · rw [if_neg e] at e1 ⊢
          omega
      · repeat' (first | (refine IsO ?_; first | refine JO_nil ?_ | (refine IsG ?_; first | refine G1 rfl rfl ?_ | refine G2 rfl ?_) | (refine IsMove ?_; first | refine M1 rfl rfl rfl ?_ | refine M2 rfl rfl rfl ?_ | refine M3 rfl rfl rfl ?_ | refine M4 rfl rfl rfl ?_ | refine M5 rfl rfl rfl (fun _ => ?_) (fun _ => ?_) | refine M6 rfl rfl rfl (fun _ => ?_) (fun _ => ?_)) | (refine IsBin ?_; first | refine B1 rfl rfl rfl rfl ?_ | refine B2 rfl rfl rfl rfl ?_ | refine B3 rfl rfl rfl rfl ?_ | refine B4 rfl rfl rfl rfl ?_ | refine B5 rfl rfl rfl rfl ?_ | refine B6 rfl rfl rfl rfl ?_ | refine B7 rfl rfl rfl rfl rfl ?_ | refine B8 rfl rfl rfl rfl rfl ?_ | refine B9 rfl rfl rfl rfl rfl rfl rfl ?_ | refine BA rfl rfl rfl rfl rfl rfl rfl ?_) | (refine IsConv ?_; refine C1 rfl rfl rfl rfl rfl ?_) | (refine IsLoad ?_; first | refine L1 rfl rfl rfl rfl ?_ | refine L2 rfl rfl rfl rfl rfl ?_) | (refine IsStore ?_; refine S1 rfl rfl rfl rfl rfl rfl rfl (fun _ => ?_)) | (refine IsBox ?_; refine N1 rfl rfl rfl rfl (fun _ => ?_)) | (refine IsAlloc ?_; refine N2 rfl rfl rfl rfl (fun _ => ?_)) | (refine IsBuild ?_; refine U1 rfl rfl rfl rfl rfl rfl ?_) | refine V1 rfl rfl rfl ?_) | (refine IsAt ?_; first | (with_reducible first | refine T1 ?_ | refine T2 ?_ | refine T3 ?_ | refine T4 ?_ | refine T5 ?_ | refine T6 ?_ | refine T7 ?_ | refine T8 ?_ | refine T9 ?_ | refine TA ?_ | refine TB ?_ | refine TC ?_) | ((with_reducible show At _ (PBlock _ _ (Exit.exit _)) _ _); first | refine At_block_hit ?_ | refine At_block_miss rfl ?_)) | (refine IsJ ?_; first | refine J_seq ?_ | refine J_region ?_ | refine J_block ?_ | refine J_skip ?_ | refine J_ret ?_ | refine J_exit ?_ | (refine IsCond ?_; first | refine J_cond_t rfl ?_ | refine J_cond_f rfl ?_ | refine K1 rfl ?_ | refine K2 rfl ?_ | refine K3 rfl ?_ | refine K4 rfl ?_ | refine J_cb rfl (fun _ => ?_) (fun _ => ?_) | refine J_nb rfl (fun _ => ?_) (fun _ => ?_))))
        refine JO_q (OQ_lookup keyedI Try.underlying43 Try.underlying3 Try.underlying3 zeroI rfl rfl hwf (by repeat (first | exact .head _ | refine .tail _ ?_))) rfl rfl ?_
        repeat' (first | (refine IsO ?_; first | refine JO_nil ?_ | (refine IsG ?_; first | refine G1 rfl rfl ?_ | refine G2 rfl ?_) | (refine IsMove ?_; first | refine M1 rfl rfl rfl ?_ | refine M2 rfl rfl rfl ?_ | refine M3 rfl rfl rfl ?_ | refine M4 rfl rfl rfl ?_ | refine M5 rfl rfl rfl (fun _ => ?_) (fun _ => ?_) | refine M6 rfl rfl rfl (fun _ => ?_) (fun _ => ?_)) | (refine IsBin ?_; first | refine B1 rfl rfl rfl rfl ?_ | refine B2 rfl rfl rfl rfl ?_ | refine B3 rfl rfl rfl rfl ?_ | refine B4 rfl rfl rfl rfl ?_ | refine B5 rfl rfl rfl rfl ?_ | refine B6 rfl rfl rfl rfl ?_ | refine B7 rfl rfl rfl rfl rfl ?_ | refine B8 rfl rfl rfl rfl rfl ?_ | refine B9 rfl rfl rfl rfl rfl rfl rfl ?_ | refine BA rfl rfl rfl rfl rfl rfl rfl ?_) | (refine IsConv ?_; refine C1 rfl rfl rfl rfl rfl ?_) | (refine IsLoad ?_; first | refine L1 rfl rfl rfl rfl ?_ | refine L2 rfl rfl rfl rfl rfl ?_) | (refine IsStore ?_; refine S1 rfl rfl rfl rfl rfl rfl rfl (fun _ => ?_)) | (refine IsBox ?_; refine N1 rfl rfl rfl rfl (fun _ => ?_)) | (refine IsAlloc ?_; refine N2 rfl rfl rfl rfl (fun _ => ?_)) | (refine IsBuild ?_; refine U1 rfl rfl rfl rfl rfl rfl ?_) | refine V1 rfl rfl rfl ?_) | (refine IsAt ?_; first | (with_reducible first | refine T1 ?_ | refine T2 ?_ | refine T3 ?_ | refine T4 ?_ | refine T5 ?_ | refine T6 ?_ | refine T7 ?_ | refine T8 ?_ | refine T9 ?_ | refine TA ?_ | refine TB ?_ | refine TC ?_) | ((with_reducible show At _ (PBlock _ _ (Exit.exit _)) _ _); first | refine At_block_hit ?_ | refine At_block_miss rfl ?_)) | (refine IsJ ?_; first | refine J_seq ?_ | refine J_region ?_ | refine J_block ?_ | refine J_skip ?_ | refine J_ret ?_ | refine J_exit ?_ | (refine IsCond ?_; first | refine J_cond_t rfl ?_ | refine J_cond_f rfl ?_ | refine K1 rfl ?_ | refine K2 rfl ?_ | refine K3 rfl ?_ | refine K4 rfl ?_ | refine J_cb rfl (fun _ => ?_) (fun _ => ?_) | refine J_nb rfl (fun _ => ?_) (fun _ => ?_))))
        refine JO_l0 (OL_mapUpdate (i := 5) keyedI Try.underlying43 Try.underlying3 Try.underlying3 rfl rfl rfl hwf (wfI_of (by omega) (by omega)) (Nat.lt_of_le_of_lt hnn (by decide)) rfl) rfl ?_
        rintro _ _ rfl
        repeat' (first | (refine IsO ?_; first | refine JO_nil ?_ | (refine IsG ?_; first | refine G1 rfl rfl ?_ | refine G2 rfl ?_) | (refine IsMove ?_; first | refine M1 rfl rfl rfl ?_ | refine M2 rfl rfl rfl ?_ | refine M3 rfl rfl rfl ?_ | refine M4 rfl rfl rfl ?_ | refine M5 rfl rfl rfl (fun _ => ?_) (fun _ => ?_) | refine M6 rfl rfl rfl (fun _ => ?_) (fun _ => ?_)) | (refine IsBin ?_; first | refine B1 rfl rfl rfl rfl ?_ | refine B2 rfl rfl rfl rfl ?_ | refine B3 rfl rfl rfl rfl ?_ | refine B4 rfl rfl rfl rfl ?_ | refine B5 rfl rfl rfl rfl ?_ | refine B6 rfl rfl rfl rfl ?_ | refine B7 rfl rfl rfl rfl rfl ?_ | refine B8 rfl rfl rfl rfl rfl ?_ | refine B9 rfl rfl rfl rfl rfl rfl rfl ?_ | refine BA rfl rfl rfl rfl rfl rfl rfl ?_) | (refine IsConv ?_; refine C1 rfl rfl rfl rfl rfl ?_) | (refine IsLoad ?_; first | refine L1 rfl rfl rfl rfl ?_ | refine L2 rfl rfl rfl rfl rfl ?_) | (refine IsStore ?_; refine S1 rfl rfl rfl rfl rfl rfl rfl (fun _ => ?_)) | (refine IsBox ?_; refine N1 rfl rfl rfl rfl (fun _ => ?_)) | (refine IsAlloc ?_; refine N2 rfl rfl rfl rfl (fun _ => ?_)) | (refine IsBuild ?_; refine U1 rfl rfl rfl rfl rfl rfl ?_) | refine V1 rfl rfl rfl ?_) | (refine IsAt ?_; first | (with_reducible first | refine T1 ?_ | refine T2 ?_ | refine T3 ?_ | refine T4 ?_ | refine T5 ?_ | refine T6 ?_ | refine T7 ?_ | refine T8 ?_ | refine T9 ?_ | refine TA ?_ | refine TB ?_ | refine TC ?_) | ((with_reducible show At _ (PBlock _ _ (Exit.exit _)) _ _); first | refine At_block_hit ?_ | refine At_block_miss rfl ?_)) | (refine IsJ ?_; first | refine J_seq ?_ | refine J_region ?_ | refine J_block ?_ | refine J_skip ?_ | refine J_ret ?_ | refine J_exit ?_ | (refine IsCond ?_; first | refine J_cond_t rfl ?_ | refine J_cond_f rfl ?_ | refine K1 rfl ?_ | refine K2 rfl ?_ | refine K3 rfl ?_ | refine K4 rfl ?_ | refine J_cb rfl (fun _ => ?_) (fun _ => ?_) | refine J_nb rfl (fun _ => ?_) (fun _ => ?_))))
        refine JO_q (OQ_lookup keyedI Try.underlying43 Try.underlying3 Try.underlying3 zeroI rfl rfl hwf (by repeat (first | exact .head _ | refine .tail _ ?_))) rfl rfl ?_
        rw [if_pos rfl]
        repeat' (first | (refine IsO ?_; first | refine JO_nil ?_ | (refine IsG ?_; first | refine G1 rfl rfl ?_ | refine G2 rfl ?_) | (refine IsMove ?_; first | refine M1 rfl rfl rfl ?_ | refine M2 rfl rfl rfl ?_ | refine M3 rfl rfl rfl ?_ | refine M4 rfl rfl rfl ?_ | refine M5 rfl rfl rfl (fun _ => ?_) (fun _ => ?_) | refine M6 rfl rfl rfl (fun _ => ?_) (fun _ => ?_)) | (refine IsBin ?_; first | refine B1 rfl rfl rfl rfl ?_ | refine B2 rfl rfl rfl rfl ?_ | refine B3 rfl rfl rfl rfl ?_ | refine B4 rfl rfl rfl rfl ?_ | refine B5 rfl rfl rfl rfl ?_ | refine B6 rfl rfl rfl rfl ?_ | refine B7 rfl rfl rfl rfl rfl ?_ | refine B8 rfl rfl rfl rfl rfl ?_ | refine B9 rfl rfl rfl rfl rfl rfl rfl ?_ | refine BA rfl rfl rfl rfl rfl rfl rfl ?_) | (refine IsConv ?_; refine C1 rfl rfl rfl rfl rfl ?_) | (refine IsLoad ?_; first | refine L1 rfl rfl rfl rfl ?_ | refine L2 rfl rfl rfl rfl rfl ?_) | (refine IsStore ?_; refine S1 rfl rfl rfl rfl rfl rfl rfl (fun _ => ?_)) | (refine IsBox ?_; refine N1 rfl rfl rfl rfl (fun _ => ?_)) | (refine IsAlloc ?_; refine N2 rfl rfl rfl rfl (fun _ => ?_)) | (refine IsBuild ?_; refine U1 rfl rfl rfl rfl rfl rfl ?_) | refine V1 rfl rfl rfl ?_) | (refine IsAt ?_; first | (with_reducible first | refine T1 ?_ | refine T2 ?_ | refine T3 ?_ | refine T4 ?_ | refine T5 ?_ | refine T6 ?_ | refine T7 ?_ | refine T8 ?_ | refine T9 ?_ | refine TA ?_ | refine TB ?_ | refine TC ?_) | ((with_reducible show At _ (PBlock _ _ (Exit.exit _)) _ _); first | refine At_block_hit ?_ | refine At_block_miss rfl ?_)) | (refine IsJ ?_; first | refine J_seq ?_ | refine J_region ?_ | refine J_block ?_ | refine J_skip ?_ | refine J_ret ?_ | refine J_exit ?_ | (refine IsCond ?_; first | refine J_cond_t rfl ?_ | refine J_cond_f rfl ?_ | refine K1 rfl ?_ | refine K2 rfl ?_ | refine K3 rfl ?_ | refine K4 rfl ?_ | refine J_cb rfl (fun _ => ?_) (fun _ => ?_) | refine J_nb rfl (fun _ => ?_) (fun _ => ?_))))
        refine At_ret rfl rfl (.tmp rfl .nil) rfl (is := [1, 2, 2, 2, 0]) rfl ⟨nn + 1, _, Nat.le_refl _, fun y => ?_, congrArg Value.bool (decide_eq_true hw1), by rw [hpu]⟩
        have e1 := hcount y
        have e2 := hf y
        by_cases e : y = w
        · rw [if_pos e] at e1 ⊢
          rw [← e]
          omega
        · rw [if_neg e] at e1 ⊢
          omega
    · rcases (show (0 < pu ∧ ¬ (k : Int) = 0) ∨ ¬ 0 < pu by by_cases e : k = 0; right; rw [hpq e hp]; decide; omega) with ⟨h1, h2⟩ | h1
      · rcases hfault with rfl | ⟨rfl, hk0⟩
        · repeat' (first | (refine IsO ?_; first | refine JO_nil ?_ | (refine IsG ?_; first | refine G1 rfl rfl ?_ | refine G2 rfl ?_) | (refine IsMove ?_; first | refine M1 rfl rfl rfl ?_ | refine M2 rfl rfl rfl ?_ | refine M3 rfl rfl rfl ?_ | refine M4 rfl rfl rfl ?_ | refine M5 rfl rfl rfl (fun _ => ?_) (fun _ => ?_) | refine M6 rfl rfl rfl (fun _ => ?_) (fun _ => ?_)) | (refine IsBin ?_; first | refine B1 rfl rfl rfl rfl ?_ | refine B2 rfl rfl rfl rfl ?_ | refine B3 rfl rfl rfl rfl ?_ | refine B4 rfl rfl rfl rfl ?_ | refine B5 rfl rfl rfl rfl ?_ | refine B6 rfl rfl rfl rfl ?_ | refine B7 rfl rfl rfl rfl rfl ?_ | refine B8 rfl rfl rfl rfl rfl ?_ | refine B9 rfl rfl rfl rfl rfl rfl rfl ?_ | refine BA rfl rfl rfl rfl rfl rfl rfl ?_) | (refine IsConv ?_; refine C1 rfl rfl rfl rfl rfl ?_) | (refine IsLoad ?_; first | refine L1 rfl rfl rfl rfl ?_ | refine L2 rfl rfl rfl rfl rfl ?_) | (refine IsStore ?_; refine S1 rfl rfl rfl rfl rfl rfl rfl (fun _ => ?_)) | (refine IsBox ?_; refine N1 rfl rfl rfl rfl (fun _ => ?_)) | (refine IsAlloc ?_; refine N2 rfl rfl rfl rfl (fun _ => ?_)) | (refine IsBuild ?_; refine U1 rfl rfl rfl rfl rfl rfl ?_) | refine V1 rfl rfl rfl ?_) | (refine IsAt ?_; first | (with_reducible first | refine T1 ?_ | refine T2 ?_ | refine T3 ?_ | refine T4 ?_ | refine T5 ?_ | refine T6 ?_ | refine T7 ?_ | refine T8 ?_ | refine T9 ?_ | refine TA ?_ | refine TB ?_ | refine TC ?_) | ((with_reducible show At _ (PBlock _ _ (Exit.exit _)) _ _); first | refine At_block_hit ?_ | refine At_block_miss rfl ?_)) | (refine IsJ ?_; first | refine J_seq ?_ | refine J_region ?_ | refine J_block ?_ | refine J_skip ?_ | refine J_ret ?_ | refine J_exit ?_ | (refine IsCond ?_; first | refine J_cond_t rfl ?_ | refine J_cond_f rfl ?_ | refine K1 rfl ?_ | refine K2 rfl ?_ | refine K3 rfl ?_ | refine K4 rfl ?_ | refine J_cb rfl (fun _ => ?_) (fun _ => ?_) | refine J_nb rfl (fun _ => ?_) (fun _ => ?_))))
          exact At_ret rfl rfl (.tmp rfl .nil) rfl (is := [0, 1, 1, 1, 1]) rfl ⟨nn, f, Nat.le_succ _, hf, rfl, by rw [hpu]⟩
        · repeat' (first | (refine IsO ?_; first | refine JO_nil ?_ | (refine IsG ?_; first | refine G1 rfl rfl ?_ | refine G2 rfl ?_) | (refine IsMove ?_; first | refine M1 rfl rfl rfl ?_ | refine M2 rfl rfl rfl ?_ | refine M3 rfl rfl rfl ?_ | refine M4 rfl rfl rfl ?_ | refine M5 rfl rfl rfl (fun _ => ?_) (fun _ => ?_) | refine M6 rfl rfl rfl (fun _ => ?_) (fun _ => ?_)) | (refine IsBin ?_; first | refine B1 rfl rfl rfl rfl ?_ | refine B2 rfl rfl rfl rfl ?_ | refine B3 rfl rfl rfl rfl ?_ | refine B4 rfl rfl rfl rfl ?_ | refine B5 rfl rfl rfl rfl ?_ | refine B6 rfl rfl rfl rfl ?_ | refine B7 rfl rfl rfl rfl rfl ?_ | refine B8 rfl rfl rfl rfl rfl ?_ | refine B9 rfl rfl rfl rfl rfl rfl rfl ?_ | refine BA rfl rfl rfl rfl rfl rfl rfl ?_) | (refine IsConv ?_; refine C1 rfl rfl rfl rfl rfl ?_) | (refine IsLoad ?_; first | refine L1 rfl rfl rfl rfl ?_ | refine L2 rfl rfl rfl rfl rfl ?_) | (refine IsStore ?_; refine S1 rfl rfl rfl rfl rfl rfl rfl (fun _ => ?_)) | (refine IsBox ?_; refine N1 rfl rfl rfl rfl (fun _ => ?_)) | (refine IsAlloc ?_; refine N2 rfl rfl rfl rfl (fun _ => ?_)) | (refine IsBuild ?_; refine U1 rfl rfl rfl rfl rfl rfl ?_) | refine V1 rfl rfl rfl ?_) | (refine IsAt ?_; first | (with_reducible first | refine T1 ?_ | refine T2 ?_ | refine T3 ?_ | refine T4 ?_ | refine T5 ?_ | refine T6 ?_ | refine T7 ?_ | refine T8 ?_ | refine T9 ?_ | refine TA ?_ | refine TB ?_ | refine TC ?_) | ((with_reducible show At _ (PBlock _ _ (Exit.exit _)) _ _); first | refine At_block_hit ?_ | refine At_block_miss rfl ?_)) | (refine IsJ ?_; first | refine J_seq ?_ | refine J_region ?_ | refine J_block ?_ | refine J_skip ?_ | refine J_ret ?_ | refine J_exit ?_ | (refine IsCond ?_; first | refine J_cond_t rfl ?_ | refine J_cond_f rfl ?_ | refine K1 rfl ?_ | refine K2 rfl ?_ | refine K3 rfl ?_ | refine K4 rfl ?_ | refine J_cb rfl (fun _ => ?_) (fun _ => ?_) | refine J_nb rfl (fun _ => ?_) (fun _ => ?_))))
          exact At_ret rfl rfl (.tmp rfl .nil) rfl (is := [0, 1, 1, 1, 1]) rfl ⟨nn, f, Nat.le_succ _, hf, congrArg Value.bool (decide_eq_true (by omega)), by rw [hpu]⟩
      · rcases hfault with rfl | ⟨rfl, hk0⟩
        · repeat' (first | (refine IsO ?_; first | refine JO_nil ?_ | (refine IsG ?_; first | refine G1 rfl rfl ?_ | refine G2 rfl ?_) | (refine IsMove ?_; first | refine M1 rfl rfl rfl ?_ | refine M2 rfl rfl rfl ?_ | refine M3 rfl rfl rfl ?_ | refine M4 rfl rfl rfl ?_ | refine M5 rfl rfl rfl (fun _ => ?_) (fun _ => ?_) | refine M6 rfl rfl rfl (fun _ => ?_) (fun _ => ?_)) | (refine IsBin ?_; first | refine B1 rfl rfl rfl rfl ?_ | refine B2 rfl rfl rfl rfl ?_ | refine B3 rfl rfl rfl rfl ?_ | refine B4 rfl rfl rfl rfl ?_ | refine B5 rfl rfl rfl rfl ?_ | refine B6 rfl rfl rfl rfl ?_ | refine B7 rfl rfl rfl rfl rfl ?_ | refine B8 rfl rfl rfl rfl rfl ?_ | refine B9 rfl rfl rfl rfl rfl rfl rfl ?_ | refine BA rfl rfl rfl rfl rfl rfl rfl ?_) | (refine IsConv ?_; refine C1 rfl rfl rfl rfl rfl ?_) | (refine IsLoad ?_; first | refine L1 rfl rfl rfl rfl ?_ | refine L2 rfl rfl rfl rfl rfl ?_) | (refine IsStore ?_; refine S1 rfl rfl rfl rfl rfl rfl rfl (fun _ => ?_)) | (refine IsBox ?_; refine N1 rfl rfl rfl rfl (fun _ => ?_)) | (refine IsAlloc ?_; refine N2 rfl rfl rfl rfl (fun _ => ?_)) | (refine IsBuild ?_; refine U1 rfl rfl rfl rfl rfl rfl ?_) | refine V1 rfl rfl rfl ?_) | (refine IsAt ?_; first | (with_reducible first | refine T1 ?_ | refine T2 ?_ | refine T3 ?_ | refine T4 ?_ | refine T5 ?_ | refine T6 ?_ | refine T7 ?_ | refine T8 ?_ | refine T9 ?_ | refine TA ?_ | refine TB ?_ | refine TC ?_) | ((with_reducible show At _ (PBlock _ _ (Exit.exit _)) _ _); first | refine At_block_hit ?_ | refine At_block_miss rfl ?_)) | (refine IsJ ?_; first | refine J_seq ?_ | refine J_region ?_ | refine J_block ?_ | refine J_skip ?_ | refine J_ret ?_ | refine J_exit ?_ | (refine IsCond ?_; first | refine J_cond_t rfl ?_ | refine J_cond_f rfl ?_ | refine K1 rfl ?_ | refine K2 rfl ?_ | refine K3 rfl ?_ | refine K4 rfl ?_ | refine J_cb rfl (fun _ => ?_) (fun _ => ?_) | refine J_nb rfl (fun _ => ?_) (fun _ => ?_))))
          exact At_ret rfl rfl (.tmp rfl .nil) rfl (is := [0, 1, 1, 1, 1]) rfl ⟨nn, f, Nat.le_succ _, hf, rfl, by rw [hpu]⟩
        · repeat' (first | (refine IsO ?_; first | refine JO_nil ?_ | (refine IsG ?_; first | refine G1 rfl rfl ?_ | refine G2 rfl ?_) | (refine IsMove ?_; first | refine M1 rfl rfl rfl ?_ | refine M2 rfl rfl rfl ?_ | refine M3 rfl rfl rfl ?_ | refine M4 rfl rfl rfl ?_ | refine M5 rfl rfl rfl (fun _ => ?_) (fun _ => ?_) | refine M6 rfl rfl rfl (fun _ => ?_) (fun _ => ?_)) | (refine IsBin ?_; first | refine B1 rfl rfl rfl rfl ?_ | refine B2 rfl rfl rfl rfl ?_ | refine B3 rfl rfl rfl rfl ?_ | refine B4 rfl rfl rfl rfl ?_ | refine B5 rfl rfl rfl rfl ?_ | refine B6 rfl rfl rfl rfl ?_ | refine B7 rfl rfl rfl rfl rfl ?_ | refine B8 rfl rfl rfl rfl rfl ?_ | refine B9 rfl rfl rfl rfl rfl rfl rfl ?_ | refine BA rfl rfl rfl rfl rfl rfl rfl ?_) | (refine IsConv ?_; refine C1 rfl rfl rfl rfl rfl ?_) | (refine IsLoad ?_; first | refine L1 rfl rfl rfl rfl ?_ | refine L2 rfl rfl rfl rfl rfl ?_) | (refine IsStore ?_; refine S1 rfl rfl rfl rfl rfl rfl rfl (fun _ => ?_)) | (refine IsBox ?_; refine N1 rfl rfl rfl rfl (fun _ => ?_)) | (refine IsAlloc ?_; refine N2 rfl rfl rfl rfl (fun _ => ?_)) | (refine IsBuild ?_; refine U1 rfl rfl rfl rfl rfl rfl ?_) | refine V1 rfl rfl rfl ?_) | (refine IsAt ?_; first | (with_reducible first | refine T1 ?_ | refine T2 ?_ | refine T3 ?_ | refine T4 ?_ | refine T5 ?_ | refine T6 ?_ | refine T7 ?_ | refine T8 ?_ | refine T9 ?_ | refine TA ?_ | refine TB ?_ | refine TC ?_) | ((with_reducible show At _ (PBlock _ _ (Exit.exit _)) _ _); first | refine At_block_hit ?_ | refine At_block_miss rfl ?_)) | (refine IsJ ?_; first | refine J_seq ?_ | refine J_region ?_ | refine J_block ?_ | refine J_skip ?_ | refine J_ret ?_ | refine J_exit ?_ | (refine IsCond ?_; first | refine J_cond_t rfl ?_ | refine J_cond_f rfl ?_ | refine K1 rfl ?_ | refine K2 rfl ?_ | refine K3 rfl ?_ | refine K4 rfl ?_ | refine J_cb rfl (fun _ => ?_) (fun _ => ?_) | refine J_nb rfl (fun _ => ?_) (fun _ => ?_))))
          exact At_ret rfl rfl (.tmp rfl .nil) rfl (is := [0, 1, 1, 1, 1]) rfl ⟨nn, f, Nat.le_succ _, hf, congrArg Value.bool (decide_eq_true (by omega)), by rw [hpu]⟩
/-- Only this call has gone on, or it has ended. -/
def wentD (cs cs' : List DK) (k : Nat) : Prop := ∀ j y, cs'[j]? = some y → y.on = true → (j = k → ∃ x, cs[k]? = some x ∧ x.on = true ∧ x.s < y.s) ∧ (j ≠ k → cs[j]? = some y)
theorem DHI.mono {m' : Nat} (h : DHI cs pu next m ws P T) (hm : m ≤ m') : DHI cs pu next m' ws P T := ⟨h.cl, h.ck, h.wl, h.tp, Nat.le_trans h.tb hm, h.ph, h.pa, h.pb, h.own, h.th⟩
theorem DHI.pub (h : DHI cs pu next m ws P T) (hn : 1 ≤ next) : 0 ≤ pu ∧ pu < next := by
  have hcl := h.cl
  have hx : cs[0]? = some cs[0] := List.getElem?_eq_getElem _
  obtain ⟨h1, h2, h3⟩ := h.own _ hx
  generalize cs[0] = x at h1 h2 h3
  cases ho : x.on with
  | false => have := (h1 ho).1; omega
  | true =>
    cases hp : x.push with
    | true => obtain ⟨a1, a2, a3, _⟩ := h2 ho hp; omega
    | false => have := (h3 ho hp).1; omega
theorem went_set {cs : List DK} {x x' : DK} {k : Nat} (hx : cs[k]? = some x) (h : x'.on = true → x.on = true ∧ x.s < x'.s) : wentD cs (cs.set k x') k := by
  intro j y hy hon
  rw [List.getElem?_set] at hy
  by_cases e : k = j
  · rw [if_pos e, if_pos (List.getElem?_eq_some_iff.1 hx).1] at hy
    injection hy with hy
    subst hy
    exact ⟨fun _ => ⟨x, hx, h hon⟩, fun e2 => absurd e.symm e2⟩
  · rw [if_neg e] at hy
    exact ⟨fun e2 => absurd e2.symm e, fun _ => hy⟩
set_option maxHeartbeats 16000000 in
theorem dhStep_spec (h : DHI cs pu next m ws P T) (hm : m ≤ 100000) (hk4 : k < 4) (hlg : lg.length < 10000) (hnn : nn ≤ 10000) (hnx : 1 ≤ next ∧ next ≤ 1000) (hf : ∀ y, f y = (P.count y : Int)) :
    Does Try.prog 41 [.int .i64 k, ptr b7 0, ptr b11 0] (dhMem p pc bw b7 b8 b9 b10 b11 bm nn cs pu next f a cap ws lg)
    (fun v l => ∃ cs' pu' f' ws' P' T' a' cap' lg' nn', DHI cs' pu' next (m + 1) ws' P' T' ∧ (∀ y, f' y = (P'.count y : Int)) ∧ lg'.length ≤ lg.length + 1 ∧ nn' ≤ nn + 1 ∧ wentD cs cs' k ∧ v = .bool true ∧ l = dhMem p pc bw b7 b8 b9 b10 b11 bm nn' cs' pu' next f' a' cap' ws' lg') := by
  have hcl := h.cl
  have hph := h.ph
  obtain ⟨x, hx⟩ : ∃ x, cs[k]? = some x := ⟨cs[k]'(by omega), List.getElem?_eq_getElem _⟩
  have hxk := h.ck k x hx
  refine Does.of tiok Try.func41 (by kernel_rfl) rfl Try.ntmps41 rfl ?_
  intro W fr
  repeat' (first | (refine IsO ?_; first | refine JO_nil ?_ | (refine IsG ?_; first | refine G1 rfl rfl ?_ | refine G2 rfl ?_) | (refine IsMove ?_; first | refine M1 rfl rfl rfl ?_ | refine M2 rfl rfl rfl ?_ | refine M3 rfl rfl rfl ?_ | refine M4 rfl rfl rfl ?_ | refine M5 rfl rfl rfl (fun _ => ?_) (fun _ => ?_) | refine M6 rfl rfl rfl (fun _ => ?_) (fun _ => ?_)) | (refine IsBin ?_; first | refine B1 rfl rfl rfl rfl ?_ | refine B2 rfl rfl rfl rfl ?_ | refine B3 rfl rfl rfl rfl ?_ | refine B4 rfl rfl rfl rfl ?_ | refine B5 rfl rfl rfl rfl ?_ | refine B6 rfl rfl rfl rfl ?_ | refine B7 rfl rfl rfl rfl rfl ?_ | refine B8 rfl rfl rfl rfl rfl ?_ | refine B9 rfl rfl rfl rfl rfl rfl rfl ?_ | refine BA rfl rfl rfl rfl rfl rfl rfl ?_) | (refine IsConv ?_; refine C1 rfl rfl rfl rfl rfl ?_) | (refine IsLoad ?_; first | refine L1 rfl rfl rfl rfl ?_ | refine L2 rfl rfl rfl rfl rfl ?_) | (refine IsStore ?_; refine S1 rfl rfl rfl rfl rfl rfl rfl (fun _ => ?_)) | (refine IsBox ?_; refine N1 rfl rfl rfl rfl (fun _ => ?_)) | (refine IsAlloc ?_; refine N2 rfl rfl rfl rfl (fun _ => ?_)) | (refine IsBuild ?_; refine U1 rfl rfl rfl rfl rfl rfl ?_) | refine V1 rfl rfl rfl ?_) | (refine IsAt ?_; first | (with_reducible first | refine T1 ?_ | refine T2 ?_ | refine T3 ?_ | refine T4 ?_ | refine T5 ?_ | refine T6 ?_ | refine T7 ?_ | refine T8 ?_ | refine T9 ?_ | refine TA ?_ | refine TB ?_ | refine TC ?_) | ((with_reducible show At _ (PBlock _ _ (Exit.exit _)) _ _); first | refine At_block_hit ?_ | refine At_block_miss rfl ?_)) | (refine IsJ ?_; first | refine J_seq ?_ | refine J_region ?_ | refine J_block ?_ | refine J_skip ?_ | refine J_ret ?_ | refine J_exit ?_ | (refine IsCond ?_; first | refine J_cond_t rfl ?_ | refine J_cond_f rfl ?_ | refine K1 rfl ?_ | refine K2 rfl ?_ | refine K3 rfl ?_ | refine K4 rfl ?_ | refine J_cb rfl (fun _ => ?_) (fun _ => ?_) | refine J_nb rfl (fun _ => ?_) (fun _ => ?_))))
  refine JO_val (OV_idxA (off := k) rfl rfl rfl rfl (by omega) (by omega) (by simp)) rfl rfl ?_
  refine JO_q (OQ_load (v := slotVD x) rfl rfl (by repeat (first | exact .head _ | refine .tail _ ?_)) (by rw [List.getElem?_map, hx]; rfl)) rfl rfl ?_
  cases ho : x.on with
  | false =>
    rw [show slotVD x = .pointer none by unfold slotVD; rw [if_neg (by rw [ho]; decide)]]
    repeat' (first | (refine IsO ?_; first | refine JO_nil ?_ | (refine IsG ?_; first | refine G1 rfl rfl ?_ | refine G2 rfl ?_) | (refine IsMove ?_; first | refine M1 rfl rfl rfl ?_ | refine M2 rfl rfl rfl ?_ | refine M3 rfl rfl rfl ?_ | refine M4 rfl rfl rfl ?_ | refine M5 rfl rfl rfl (fun _ => ?_) (fun _ => ?_) | refine M6 rfl rfl rfl (fun _ => ?_) (fun _ => ?_)) | (refine IsBin ?_; first | refine B1 rfl rfl rfl rfl ?_ | refine B2 rfl rfl rfl rfl ?_ | refine B3 rfl rfl rfl rfl ?_ | refine B4 rfl rfl rfl rfl ?_ | refine B5 rfl rfl rfl rfl ?_ | refine B6 rfl rfl rfl rfl ?_ | refine B7 rfl rfl rfl rfl rfl ?_ | refine B8 rfl rfl rfl rfl rfl ?_ | refine B9 rfl rfl rfl rfl rfl rfl rfl ?_ | refine BA rfl rfl rfl rfl rfl rfl rfl ?_) | (refine IsConv ?_; refine C1 rfl rfl rfl rfl rfl ?_) | (refine IsLoad ?_; first | refine L1 rfl rfl rfl rfl ?_ | refine L2 rfl rfl rfl rfl rfl ?_) | (refine IsStore ?_; refine S1 rfl rfl rfl rfl rfl rfl rfl (fun _ => ?_)) | (refine IsBox ?_; refine N1 rfl rfl rfl rfl (fun _ => ?_)) | (refine IsAlloc ?_; refine N2 rfl rfl rfl rfl (fun _ => ?_)) | (refine IsBuild ?_; refine U1 rfl rfl rfl rfl rfl rfl ?_) | refine V1 rfl rfl rfl ?_) | (refine IsAt ?_; first | (with_reducible first | refine T1 ?_ | refine T2 ?_ | refine T3 ?_ | refine T4 ?_ | refine T5 ?_ | refine T6 ?_ | refine T7 ?_ | refine T8 ?_ | refine T9 ?_ | refine TA ?_ | refine TB ?_ | refine TC ?_) | ((with_reducible show At _ (PBlock _ _ (Exit.exit _)) _ _); first | refine At_block_hit ?_ | refine At_block_miss rfl ?_)) | (refine IsJ ?_; first | refine J_seq ?_ | refine J_region ?_ | refine J_block ?_ | refine J_skip ?_ | refine J_ret ?_ | refine J_exit ?_ | (refine IsCond ?_; first | refine J_cond_t rfl ?_ | refine J_cond_f rfl ?_ | refine K1 rfl ?_ | refine K2 rfl ?_ | refine K3 rfl ?_ | refine K4 rfl ?_ | refine J_cb rfl (fun _ => ?_) (fun _ => ?_) | refine J_nb rfl (fun _ => ?_) (fun _ => ?_))))
    exact At_ret rfl rfl (.tmp rfl .nil) rfl (is := [0, 0, 0, 0, 0, 0, 0, 0, 0, 0, 0]) rfl ⟨cs, pu, f, ws, P, T, a, cap, lg, nn, h.mono (Nat.le_succ _), hf, Nat.le_succ _, Nat.le_succ _, (fun j y hy hon => ⟨fun e => (by subst e; rw [hx] at hy; injection hy with hy; subst hy; rw [ho] at hon; cases hon), fun _ => hy⟩), rfl, rfl⟩
  | true =>
    have hsv : slotVD x = ptr x.c 0 := by unfold slotVD; rw [if_pos ho]
    have hsh : slotHD p x = dcL x.c p (k : Int) (nx (fnD x)) x.b x.t x.word 0 := by unfold slotHD; rw [if_pos ho, hxk]
    rw [hsv]
    repeat' (first | (refine IsO ?_; first | refine JO_nil ?_ | (refine IsG ?_; first | refine G1 rfl rfl ?_ | refine G2 rfl ?_) | (refine IsMove ?_; first | refine M1 rfl rfl rfl ?_ | refine M2 rfl rfl rfl ?_ | refine M3 rfl rfl rfl ?_ | refine M4 rfl rfl rfl ?_ | refine M5 rfl rfl rfl (fun _ => ?_) (fun _ => ?_) | refine M6 rfl rfl rfl (fun _ => ?_) (fun _ => ?_)) | (refine IsBin ?_; first | refine B1 rfl rfl rfl rfl ?_ | refine B2 rfl rfl rfl rfl ?_ | refine B3 rfl rfl rfl rfl ?_ | refine B4 rfl rfl rfl rfl ?_ | refine B5 rfl rfl rfl rfl ?_ | refine B6 rfl rfl rfl rfl ?_ | refine B7 rfl rfl rfl rfl rfl ?_ | refine B8 rfl rfl rfl rfl rfl ?_ | refine B9 rfl rfl rfl rfl rfl rfl rfl ?_ | refine BA rfl rfl rfl rfl rfl rfl rfl ?_) | (refine IsConv ?_; refine C1 rfl rfl rfl rfl rfl ?_) | (refine IsLoad ?_; first | refine L1 rfl rfl rfl rfl ?_ | refine L2 rfl rfl rfl rfl rfl ?_) | (refine IsStore ?_; refine S1 rfl rfl rfl rfl rfl rfl rfl (fun _ => ?_)) | (refine IsBox ?_; refine N1 rfl rfl rfl rfl (fun _ => ?_)) | (refine IsAlloc ?_; refine N2 rfl rfl rfl rfl (fun _ => ?_)) | (refine IsBuild ?_; refine U1 rfl rfl rfl rfl rfl rfl ?_) | refine V1 rfl rfl rfl ?_) | (refine IsAt ?_; first | (with_reducible first | refine T1 ?_ | refine T2 ?_ | refine T3 ?_ | refine T4 ?_ | refine T5 ?_ | refine T6 ?_ | refine T7 ?_ | refine T8 ?_ | refine T9 ?_ | refine TA ?_ | refine TB ?_ | refine TC ?_) | ((with_reducible show At _ (PBlock _ _ (Exit.exit _)) _ _); first | refine At_block_hit ?_ | refine At_block_miss rfl ?_)) | (refine IsJ ?_; first | refine J_seq ?_ | refine J_region ?_ | refine J_block ?_ | refine J_skip ?_ | refine J_ret ?_ | refine J_exit ?_ | (refine IsCond ?_; first | refine J_cond_t rfl ?_ | refine J_cond_f rfl ?_ | refine K1 rfl ?_ | refine K2 rfl ?_ | refine K3 rfl ?_ | refine K4 rfl ?_ | refine J_cb rfl (fun _ => ?_) (fun _ => ?_) | refine J_nb rfl (fun _ => ?_) (fun _ => ?_))))
    refine JO_val (OV_idxA (off := k) rfl rfl rfl rfl (by omega) (by omega) (by simp)) rfl rfl ?_
    refine JO_q (OQ_load (v := ptr x.c 0) rfl rfl (by repeat (first | exact .head _ | refine .tail _ ?_)) (by rw [List.getElem?_map, hx, ← hsv]; rfl)) rfl rfl ?_
    refine JO_hp (l' := dcL x.c p (k : Int) (nx (fnD x)) x.b x.t x.word 0 :: bigM (slotHD p) (cs.eraseIdx k) :: (dhBlk b7 b8 b9 b10 bm nn cs pu next f ++ (blk b11 [dhTk b7 b8 b9 b10] 44 :: deqL p pc bw a cap ws lg 40))) (fun H hl => by rw [← hsh]; exact bigM.out hx hl) ?_
    refine JO_l (OL_call [0, 7, 7, 7, 7] rfl rfl rfl (StepDK_spec h hm hk4 hx ho hlg) rfl) rfl rfl ?_
    rintro v _ ⟨l1, ⟨a', cap', lg', hlg', hcase⟩, rfl⟩
    rcases hcase with ⟨x', ws', rfl, ho', hc', hk', hp', hs', hI', rfl⟩ | ⟨b', t', w', fault, ws', P', T', rfl, hI', hE, rfl⟩
    · have hsv' : slotVD x' = slotVD x := by unfold slotVD; rw [if_pos ho', if_pos ho, hc']
      have hms : (cs.set k x').map slotVD = cs.map slotVD := by
        rw [List.map_set, hsv']
        obtain ⟨h1, h2⟩ := List.getElem?_eq_some_iff.1 (show (cs.map slotVD)[k]? = some (slotVD x) by rw [List.getElem?_map, hx]; rfl)
        rw [← h2]; exact List.set_getElem_self h1
      have hsh' : slotHD p x' = dcL x.c p (k : Int) (nx (fnD x')) x'.b x'.t x'.word 0 := by unfold slotHD; rw [if_pos ho', hk', hc']
      repeat' (first | (refine IsO ?_; first | refine JO_nil ?_ | (refine IsG ?_; first | refine G1 rfl rfl ?_ | refine G2 rfl ?_) | (refine IsMove ?_; first | refine M1 rfl rfl rfl ?_ | refine M2 rfl rfl rfl ?_ | refine M3 rfl rfl rfl ?_ | refine M4 rfl rfl rfl ?_ | refine M5 rfl rfl rfl (fun _ => ?_) (fun _ => ?_) | refine M6 rfl rfl rfl (fun _ => ?_) (fun _ => ?_)) | (refine IsBin ?_; first | refine B1 rfl rfl rfl rfl ?_ | refine B2 rfl rfl rfl rfl ?_ | refine B3 rfl rfl rfl rfl ?_ | refine B4 rfl rfl rfl rfl ?_ | refine B5 rfl rfl rfl rfl ?_ | refine B6 rfl rfl rfl rfl ?_ | refine B7 rfl rfl rfl rfl rfl ?_ | refine B8 rfl rfl rfl rfl rfl ?_ | refine B9 rfl rfl rfl rfl rfl rfl rfl ?_ | refine BA rfl rfl rfl rfl rfl rfl rfl ?_) | (refine IsConv ?_; refine C1 rfl rfl rfl rfl rfl ?_) | (refine IsLoad ?_; first | refine L1 rfl rfl rfl rfl ?_ | refine L2 rfl rfl rfl rfl rfl ?_) | (refine IsStore ?_; refine S1 rfl rfl rfl rfl rfl rfl rfl (fun _ => ?_)) | (refine IsBox ?_; refine N1 rfl rfl rfl rfl (fun _ => ?_)) | (refine IsAlloc ?_; refine N2 rfl rfl rfl rfl (fun _ => ?_)) | (refine IsBuild ?_; refine U1 rfl rfl rfl rfl rfl rfl ?_) | refine V1 rfl rfl rfl ?_) | (refine IsAt ?_; first | (with_reducible first | refine T1 ?_ | refine T2 ?_ | refine T3 ?_ | refine T4 ?_ | refine T5 ?_ | refine T6 ?_ | refine T7 ?_ | refine T8 ?_ | refine T9 ?_ | refine TA ?_ | refine TB ?_ | refine TC ?_) | ((with_reducible show At _ (PBlock _ _ (Exit.exit _)) _ _); first | refine At_block_hit ?_ | refine At_block_miss rfl ?_)) | (refine IsJ ?_; first | refine J_seq ?_ | refine J_region ?_ | refine J_block ?_ | refine J_skip ?_ | refine J_ret ?_ | refine J_exit ?_ | (refine IsCond ?_; first | refine J_cond_t rfl ?_ | refine J_cond_f rfl ?_ | refine K1 rfl ?_ | refine K2 rfl ?_ | refine K3 rfl ?_ | refine K4 rfl ?_ | refine J_cb rfl (fun _ => ?_) (fun _ => ?_) | refine J_nb rfl (fun _ => ?_) (fun _ => ?_))))
      refine At_ret' rfl rfl (.tmp rfl .nil) rfl (l' := dhMem p pc bw b7 b8 b9 b10 b11 bm nn (cs.set k x') pu next f a' cap' ws' lg') (fun H hl => ?_) ⟨cs.set k x', pu, f, ws', P, T, a', cap', lg', nn, hI', hf, by omega, Nat.le_succ _, went_set hx (fun _ => ⟨ho, hs'⟩), rfl, rfl⟩
      have h2 := hl.pick (l := _) (is := [0, 4, 4, 4, 4, 4, 4, 4, 0, 0, 0, 0]) rfl
      rw [← hsh'] at h2
      have h3 := bigM.back (by omega) h2
      show Stars (_ :: blk b7 ((cs.set k x').map slotVD) _ :: _) H
      rw [hms]
      exact h3
    · have hslot : ∀ H l, Stars (bigM (slotHD p) (cs.eraseIdx k) :: l) H → Stars (bigM (slotHD p) (cs.set k { x with on := false }) :: l) H := fun H l hl => by
        refine bigM.back (by omega) ?_
        refine ⟨fun _ => none, H, fun _ => .inl rfl, (fun _ _ e => by cases e), Sub.refl _, ?_, hl⟩
        show slotHD p { x with on := false } _
        unfold slotHD
        rw [if_neg (by show ¬ false = true; decide)]
        trivial
      have hpush : x.push = true → pu = x.word ∧ 0 < x.word ∧ x.word < next := fun e => by
        have hk0 : k = 0 := by
          by_cases e0 : k = 0
          · exact e0
          · have := (h.th k x (by omega) hx ho).1
            rw [e] at this; cases this
        subst hk0
        obtain ⟨a1, a2, a3, _⟩ := (h.own x hx).2.1 ho e
        exact ⟨a1, a2, a3⟩
      have hpop : k = 0 → x.push = false → pu = 0 := fun e1 e2 => by
        subst e1
        exact ((h.own x hx).2.2 ho e2).1
      have hTk := dhTake_spec (p := p) (b7 := b7) (b8 := b8) (b9 := b9) (b10 := b10) (bm := bm) (nn := nn) (bb := b') (tt := t') hcl hk4 hx ho hnn hnx (by omega) h.pb hpush hpop (h.pub hnx.1) hf hE
      repeat' (first | (refine IsO ?_; first | refine JO_nil ?_ | (refine IsG ?_; first | refine G1 rfl rfl ?_ | refine G2 rfl ?_) | (refine IsMove ?_; first | refine M1 rfl rfl rfl ?_ | refine M2 rfl rfl rfl ?_ | refine M3 rfl rfl rfl ?_ | refine M4 rfl rfl rfl ?_ | refine M5 rfl rfl rfl (fun _ => ?_) (fun _ => ?_) | refine M6 rfl rfl rfl (fun _ => ?_) (fun _ => ?_)) | (refine IsBin ?_; first | refine B1 rfl rfl rfl rfl ?_ | refine B2 rfl rfl rfl rfl ?_ | refine B3 rfl rfl rfl rfl ?_ | refine B4 rfl rfl rfl rfl ?_ | refine B5 rfl rfl rfl rfl ?_ | refine B6 rfl rfl rfl rfl ?_ | refine B7 rfl rfl rfl rfl rfl ?_ | refine B8 rfl rfl rfl rfl rfl ?_ | refine B9 rfl rfl rfl rfl rfl rfl rfl ?_ | refine BA rfl rfl rfl rfl rfl rfl rfl ?_) | (refine IsConv ?_; refine C1 rfl rfl rfl rfl rfl ?_) | (refine IsLoad ?_; first | refine L1 rfl rfl rfl rfl ?_ | refine L2 rfl rfl rfl rfl rfl ?_) | (refine IsStore ?_; refine S1 rfl rfl rfl rfl rfl rfl rfl (fun _ => ?_)) | (refine IsBox ?_; refine N1 rfl rfl rfl rfl (fun _ => ?_)) | (refine IsAlloc ?_; refine N2 rfl rfl rfl rfl (fun _ => ?_)) | (refine IsBuild ?_; refine U1 rfl rfl rfl rfl rfl rfl ?_) | refine V1 rfl rfl rfl ?_) | (refine IsAt ?_; first | (with_reducible first | refine T1 ?_ | refine T2 ?_ | refine T3 ?_ | refine T4 ?_ | refine T5 ?_ | refine T6 ?_ | refine T7 ?_ | refine T8 ?_ | refine T9 ?_ | refine TA ?_ | refine TB ?_ | refine TC ?_) | ((with_reducible show At _ (PBlock _ _ (Exit.exit _)) _ _); first | refine At_block_hit ?_ | refine At_block_miss rfl ?_)) | (refine IsJ ?_; first | refine J_seq ?_ | refine J_region ?_ | refine J_block ?_ | refine J_skip ?_ | refine J_ret ?_ | refine J_exit ?_ | (refine IsCond ?_; first | refine J_cond_t rfl ?_ | refine J_cond_f rfl ?_ | refine K1 rfl ?_ | refine K2 rfl ?_ | refine K3 rfl ?_ | refine K4 rfl ?_ | refine J_cb rfl (fun _ => ?_) (fun _ => ?_) | refine J_nb rfl (fun _ => ?_) (fun _ => ?_))))
      refine JO_l (OL_call [0, 5, 5, 5, 5, 5] rfl rfl rfl hTk rfl) rfl rfl ?_
      rintro _ _ ⟨_, ⟨nn', f', hnn', hf', rfl, rfl⟩, rfl⟩
      repeat' (first | (refine IsO ?_; first | refine JO_nil ?_ | (refine IsG ?_; first | refine G1 rfl rfl ?_ | refine G2 rfl ?_) | (refine IsMove ?_; first | refine M1 rfl rfl rfl ?_ | refine M2 rfl rfl rfl ?_ | refine M3 rfl rfl rfl ?_ | refine M4 rfl rfl rfl ?_ | refine M5 rfl rfl rfl (fun _ => ?_) (fun _ => ?_) | refine M6 rfl rfl rfl (fun _ => ?_) (fun _ => ?_)) | (refine IsBin ?_; first | refine B1 rfl rfl rfl rfl ?_ | refine B2 rfl rfl rfl rfl ?_ | refine B3 rfl rfl rfl rfl ?_ | refine B4 rfl rfl rfl rfl ?_ | refine B5 rfl rfl rfl rfl ?_ | refine B6 rfl rfl rfl rfl ?_ | refine B7 rfl rfl rfl rfl rfl ?_ | refine B8 rfl rfl rfl rfl rfl ?_ | refine B9 rfl rfl rfl rfl rfl rfl rfl ?_ | refine BA rfl rfl rfl rfl rfl rfl rfl ?_) | (refine IsConv ?_; refine C1 rfl rfl rfl rfl rfl ?_) | (refine IsLoad ?_; first | refine L1 rfl rfl rfl rfl ?_ | refine L2 rfl rfl rfl rfl rfl ?_) | (refine IsStore ?_; refine S1 rfl rfl rfl rfl rfl rfl rfl (fun _ => ?_)) | (refine IsBox ?_; refine N1 rfl rfl rfl rfl (fun _ => ?_)) | (refine IsAlloc ?_; refine N2 rfl rfl rfl rfl (fun _ => ?_)) | (refine IsBuild ?_; refine U1 rfl rfl rfl rfl rfl rfl ?_) | refine V1 rfl rfl rfl ?_) | (refine IsAt ?_; first | (with_reducible first | refine T1 ?_ | refine T2 ?_ | refine T3 ?_ | refine T4 ?_ | refine T5 ?_ | refine T6 ?_ | refine T7 ?_ | refine T8 ?_ | refine T9 ?_ | refine TA ?_ | refine TB ?_ | refine TC ?_) | ((with_reducible show At _ (PBlock _ _ (Exit.exit _)) _ _); first | refine At_block_hit ?_ | refine At_block_miss rfl ?_)) | (refine IsJ ?_; first | refine J_seq ?_ | refine J_region ?_ | refine J_block ?_ | refine J_skip ?_ | refine J_ret ?_ | refine J_exit ?_ | (refine IsCond ?_; first | refine J_cond_t rfl ?_ | refine J_cond_f rfl ?_ | refine K1 rfl ?_ | refine K2 rfl ?_ | refine K3 rfl ?_ | refine K4 rfl ?_ | refine J_cb rfl (fun _ => ?_) (fun _ => ?_) | refine J_nb rfl (fun _ => ?_) (fun _ => ?_))))
      exact At_ret' rfl rfl (.tmp rfl .nil) rfl (l' := dhMem p pc bw b7 b8 b9 b10 b11 bm nn' (cs.set k { x with on := false }) (if k = 0 then 0 else pu) next f' a' cap' ws' lg') (fun H hl => hslot H _ (hl.pick (is := [9, 0, 0, 0, 0, 0, 4, 0, 0, 0, 0]) rfl)) ⟨cs.set k { x with on := false }, _, f', ws', P', T', a', cap', lg', nn', hI', hf', by omega, hnn', went_set hx (fun e => by cases e), rfl, rfl⟩
end ops
end Go.Proofs.Ytjllfgocgehpeaa
/-
  Our own: the law functions besomlaw06.awake, DequeNews, DequeRooms.
-/
set_option linter.unusedVariables false
set_option linter.unusedSimpArgs false
namespace Go.Proofs.Ytjllfgocgehpeaa
open Go.Sep
set_option maxHeartbeats 4000000 in
theorem awake6_spec : Does Try.prog 29 [] [] (fun v l => v = .bool true ∧ l = []) := by
  refine Does.of tiok Try.func29 (by kernel_rfl) rfl Try.ntmps29 rfl ?_
  intro W fr
  have hD := Deq.new 2
  repeat' (first | (refine IsO ?_; first | refine JO_nil ?_ | (refine IsG ?_; first | refine G1 rfl rfl ?_ | refine G2 rfl ?_) | (refine IsMove ?_; first | refine M1 rfl rfl rfl ?_ | refine M2 rfl rfl rfl ?_ | refine M3 rfl rfl rfl ?_ | refine M4 rfl rfl rfl ?_ | refine M5 rfl rfl rfl (fun _ => ?_) (fun _ => ?_) | refine M6 rfl rfl rfl (fun _ => ?_) (fun _ => ?_)) | (refine IsBin ?_; first | refine B1 rfl rfl rfl rfl ?_ | refine B2 rfl rfl rfl rfl ?_ | refine B3 rfl rfl rfl rfl ?_ | refine B4 rfl rfl rfl rfl ?_ | refine B5 rfl rfl rfl rfl ?_ | refine B6 rfl rfl rfl rfl ?_ | refine B7 rfl rfl rfl rfl rfl ?_ | refine B8 rfl rfl rfl rfl rfl ?_ | refine B9 rfl rfl rfl rfl rfl rfl rfl ?_ | refine BA rfl rfl rfl rfl rfl rfl rfl ?_) | (refine IsConv ?_; refine C1 rfl rfl rfl rfl rfl ?_) | (refine IsLoad ?_; first | refine L1 rfl rfl rfl rfl ?_ | refine L2 rfl rfl rfl rfl rfl ?_) | (refine IsStore ?_; refine S1 rfl rfl rfl rfl rfl rfl rfl (fun _ => ?_)) | (refine IsBox ?_; refine N1 rfl rfl rfl rfl (fun _ => ?_)) | (refine IsAlloc ?_; refine N2 rfl rfl rfl rfl (fun _ => ?_)) | (refine IsBuild ?_; refine U1 rfl rfl rfl rfl rfl rfl ?_) | refine V1 rfl rfl rfl ?_) | (refine IsAt ?_; first | (with_reducible first | refine T1 ?_ | refine T2 ?_ | refine T3 ?_ | refine T4 ?_ | refine T5 ?_ | refine T6 ?_ | refine T7 ?_ | refine T8 ?_ | refine T9 ?_ | refine TA ?_ | refine TB ?_ | refine TC ?_) | ((with_reducible show At _ (PBlock _ _ (Exit.exit _)) _ _); first | refine At_block_hit ?_ | refine At_block_miss rfl ?_)) | (refine IsJ ?_; first | refine J_seq ?_ | refine J_region ?_ | refine J_block ?_ | refine J_skip ?_ | refine J_ret ?_ | refine J_exit ?_ | (refine IsCond ?_; first | refine J_cond_t rfl ?_ | refine J_cond_f rfl ?_ | refine K1 rfl ?_ | refine K2 rfl ?_ | refine K3 rfl ?_ | refine K4 rfl ?_ | refine J_cb rfl (fun _ => ?_) (fun _ => ?_) | refine J_nb rfl (fun _ => ?_) (fun _ => ?_))))
  refine JO_l (OL_call [] rfl rfl rfl (deqNew_ok 2 (by decide) (by decide)) rfl) rfl rfl ?_; rintro _ _ ⟨_, ⟨p, pc, bw, rfl, rfl⟩, rfl⟩
  generalize List.replicate (2 + 2) (0 : Int) = ws at hD
  have h1 := hD.len
  repeat' (first | (refine IsO ?_; first | refine JO_nil ?_ | (refine IsG ?_; first | refine G1 rfl rfl ?_ | refine G2 rfl ?_) | (refine IsMove ?_; first | refine M1 rfl rfl rfl ?_ | refine M2 rfl rfl rfl ?_ | refine M3 rfl rfl rfl ?_ | refine M4 rfl rfl rfl ?_ | refine M5 rfl rfl rfl (fun _ => ?_) (fun _ => ?_) | refine M6 rfl rfl rfl (fun _ => ?_) (fun _ => ?_)) | (refine IsBin ?_; first | refine B1 rfl rfl rfl rfl ?_ | refine B2 rfl rfl rfl rfl ?_ | refine B3 rfl rfl rfl rfl ?_ | refine B4 rfl rfl rfl rfl ?_ | refine B5 rfl rfl rfl rfl ?_ | refine B6 rfl rfl rfl rfl ?_ | refine B7 rfl rfl rfl rfl rfl ?_ | refine B8 rfl rfl rfl rfl rfl ?_ | refine B9 rfl rfl rfl rfl rfl rfl rfl ?_ | refine BA rfl rfl rfl rfl rfl rfl rfl ?_) | (refine IsConv ?_; refine C1 rfl rfl rfl rfl rfl ?_) | (refine IsLoad ?_; first | refine L1 rfl rfl rfl rfl ?_ | refine L2 rfl rfl rfl rfl rfl ?_) | (refine IsStore ?_; refine S1 rfl rfl rfl rfl rfl rfl rfl (fun _ => ?_)) | (refine IsBox ?_; refine N1 rfl rfl rfl rfl (fun _ => ?_)) | (refine IsAlloc ?_; refine N2 rfl rfl rfl rfl (fun _ => ?_)) | (refine IsBuild ?_; refine U1 rfl rfl rfl rfl rfl rfl ?_) | refine V1 rfl rfl rfl ?_) | (refine IsAt ?_; first | (with_reducible first | refine T1 ?_ | refine T2 ?_ | refine T3 ?_ | refine T4 ?_ | refine T5 ?_ | refine T6 ?_ | refine T7 ?_ | refine T8 ?_ | refine T9 ?_ | refine TA ?_ | refine TB ?_ | refine TC ?_) | ((with_reducible show At _ (PBlock _ _ (Exit.exit _)) _ _); first | refine At_block_hit ?_ | refine At_block_miss rfl ?_)) | (refine IsJ ?_; first | refine J_seq ?_ | refine J_region ?_ | refine J_block ?_ | refine J_skip ?_ | refine J_ret ?_ | refine J_exit ?_ | (refine IsCond ?_; first | refine J_cond_t rfl ?_ | refine J_cond_f rfl ?_ | refine K1 rfl ?_ | refine K2 rfl ?_ | refine K3 rfl ?_ | refine K4 rfl ?_ | refine J_cb rfl (fun _ => ?_) (fun _ => ?_) | refine J_nb rfl (fun _ => ?_) (fun _ => ?_))))
  refine JO_l (OL_call [] rfl rfl rfl (Push_spec 5) rfl) rfl rfl ?_; rintro _ _ ⟨_, ⟨c, rfl, rfl⟩, rfl⟩
  repeat' (first | (refine IsO ?_; first | refine JO_nil ?_ | (refine IsG ?_; first | refine G1 rfl rfl ?_ | refine G2 rfl ?_) | (refine IsMove ?_; first | refine M1 rfl rfl rfl ?_ | refine M2 rfl rfl rfl ?_ | refine M3 rfl rfl rfl ?_ | refine M4 rfl rfl rfl ?_ | refine M5 rfl rfl rfl (fun _ => ?_) (fun _ => ?_) | refine M6 rfl rfl rfl (fun _ => ?_) (fun _ => ?_)) | (refine IsBin ?_; first | refine B1 rfl rfl rfl rfl ?_ | refine B2 rfl rfl rfl rfl ?_ | refine B3 rfl rfl rfl rfl ?_ | refine B4 rfl rfl rfl rfl ?_ | refine B5 rfl rfl rfl rfl ?_ | refine B6 rfl rfl rfl rfl ?_ | refine B7 rfl rfl rfl rfl rfl ?_ | refine B8 rfl rfl rfl rfl rfl ?_ | refine B9 rfl rfl rfl rfl rfl rfl rfl ?_ | refine BA rfl rfl rfl rfl rfl rfl rfl ?_) | (refine IsConv ?_; refine C1 rfl rfl rfl rfl rfl ?_) | (refine IsLoad ?_; first | refine L1 rfl rfl rfl rfl ?_ | refine L2 rfl rfl rfl rfl rfl ?_) | (refine IsStore ?_; refine S1 rfl rfl rfl rfl rfl rfl rfl (fun _ => ?_)) | (refine IsBox ?_; refine N1 rfl rfl rfl rfl (fun _ => ?_)) | (refine IsAlloc ?_; refine N2 rfl rfl rfl rfl (fun _ => ?_)) | (refine IsBuild ?_; refine U1 rfl rfl rfl rfl rfl rfl ?_) | refine V1 rfl rfl rfl ?_) | (refine IsAt ?_; first | (with_reducible first | refine T1 ?_ | refine T2 ?_ | refine T3 ?_ | refine T4 ?_ | refine T5 ?_ | refine T6 ?_ | refine T7 ?_ | refine T8 ?_ | refine T9 ?_ | refine TA ?_ | refine TB ?_ | refine TC ?_) | ((with_reducible show At _ (PBlock _ _ (Exit.exit _)) _ _); first | refine At_block_hit ?_ | refine At_block_miss rfl ?_)) | (refine IsJ ?_; first | refine J_seq ?_ | refine J_region ?_ | refine J_block ?_ | refine J_skip ?_ | refine J_ret ?_ | refine J_exit ?_ | (refine IsCond ?_; first | refine J_cond_t rfl ?_ | refine J_cond_f rfl ?_ | refine K1 rfl ?_ | refine K2 rfl ?_ | refine K3 rfl ?_ | refine K4 rfl ?_ | refine J_cb rfl (fun _ => ?_) (fun _ => ?_) | refine J_nb rfl (fun _ => ?_) (fun _ => ?_))))
  refine JO_l (OL_call [0, 0, 0, 0, 0] rfl rfl rfl (StepD_more (pushLook_ok (m := 0) hD.bot h1 (by decide) (by decide) (by decide) (by simp) (by decide))) rfl) rfl rfl ?_; rintro _ _ ⟨_, ⟨a1, cap1, t1, rfl, rfl⟩, rfl⟩
  repeat' (first | (refine IsO ?_; first | refine JO_nil ?_ | (refine IsG ?_; first | refine G1 rfl rfl ?_ | refine G2 rfl ?_) | (refine IsMove ?_; first | refine M1 rfl rfl rfl ?_ | refine M2 rfl rfl rfl ?_ | refine M3 rfl rfl rfl ?_ | refine M4 rfl rfl rfl ?_ | refine M5 rfl rfl rfl (fun _ => ?_) (fun _ => ?_) | refine M6 rfl rfl rfl (fun _ => ?_) (fun _ => ?_)) | (refine IsBin ?_; first | refine B1 rfl rfl rfl rfl ?_ | refine B2 rfl rfl rfl rfl ?_ | refine B3 rfl rfl rfl rfl ?_ | refine B4 rfl rfl rfl rfl ?_ | refine B5 rfl rfl rfl rfl ?_ | refine B6 rfl rfl rfl rfl ?_ | refine B7 rfl rfl rfl rfl rfl ?_ | refine B8 rfl rfl rfl rfl rfl ?_ | refine B9 rfl rfl rfl rfl rfl rfl rfl ?_ | refine BA rfl rfl rfl rfl rfl rfl rfl ?_) | (refine IsConv ?_; refine C1 rfl rfl rfl rfl rfl ?_) | (refine IsLoad ?_; first | refine L1 rfl rfl rfl rfl ?_ | refine L2 rfl rfl rfl rfl rfl ?_) | (refine IsStore ?_; refine S1 rfl rfl rfl rfl rfl rfl rfl (fun _ => ?_)) | (refine IsBox ?_; refine N1 rfl rfl rfl rfl (fun _ => ?_)) | (refine IsAlloc ?_; refine N2 rfl rfl rfl rfl (fun _ => ?_)) | (refine IsBuild ?_; refine U1 rfl rfl rfl rfl rfl rfl ?_) | refine V1 rfl rfl rfl ?_) | (refine IsAt ?_; first | (with_reducible first | refine T1 ?_ | refine T2 ?_ | refine T3 ?_ | refine T4 ?_ | refine T5 ?_ | refine T6 ?_ | refine T7 ?_ | refine T8 ?_ | refine T9 ?_ | refine TA ?_ | refine TB ?_ | refine TC ?_) | ((with_reducible show At _ (PBlock _ _ (Exit.exit _)) _ _); first | refine At_block_hit ?_ | refine At_block_miss rfl ?_)) | (refine IsJ ?_; first | refine J_seq ?_ | refine J_region ?_ | refine J_block ?_ | refine J_skip ?_ | refine J_ret ?_ | refine J_exit ?_ | (refine IsCond ?_; first | refine J_cond_t rfl ?_ | refine J_cond_f rfl ?_ | refine K1 rfl ?_ | refine K2 rfl ?_ | refine K3 rfl ?_ | refine K4 rfl ?_ | refine J_cb rfl (fun _ => ?_) (fun _ => ?_) | refine J_nb rfl (fun _ => ?_) (fun _ => ?_))))
  refine JO_l (OL_call [0, 0, 0, 0, 0] rfl rfl rfl (StepD_more (pushWord_ok (m := 0) h1 (by decide) (by decide) (by decide) (by simp) (by decide))) rfl) rfl rfl ?_; rintro _ _ ⟨_, ⟨a2, cap2, t2, rfl, rfl⟩, rfl⟩
  repeat' (first | (refine IsO ?_; first | refine JO_nil ?_ | (refine IsG ?_; first | refine G1 rfl rfl ?_ | refine G2 rfl ?_) | (refine IsMove ?_; first | refine M1 rfl rfl rfl ?_ | refine M2 rfl rfl rfl ?_ | refine M3 rfl rfl rfl ?_ | refine M4 rfl rfl rfl ?_ | refine M5 rfl rfl rfl (fun _ => ?_) (fun _ => ?_) | refine M6 rfl rfl rfl (fun _ => ?_) (fun _ => ?_)) | (refine IsBin ?_; first | refine B1 rfl rfl rfl rfl ?_ | refine B2 rfl rfl rfl rfl ?_ | refine B3 rfl rfl rfl rfl ?_ | refine B4 rfl rfl rfl rfl ?_ | refine B5 rfl rfl rfl rfl ?_ | refine B6 rfl rfl rfl rfl ?_ | refine B7 rfl rfl rfl rfl rfl ?_ | refine B8 rfl rfl rfl rfl rfl ?_ | refine B9 rfl rfl rfl rfl rfl rfl rfl ?_ | refine BA rfl rfl rfl rfl rfl rfl rfl ?_) | (refine IsConv ?_; refine C1 rfl rfl rfl rfl rfl ?_) | (refine IsLoad ?_; first | refine L1 rfl rfl rfl rfl ?_ | refine L2 rfl rfl rfl rfl rfl ?_) | (refine IsStore ?_; refine S1 rfl rfl rfl rfl rfl rfl rfl (fun _ => ?_)) | (refine IsBox ?_; refine N1 rfl rfl rfl rfl (fun _ => ?_)) | (refine IsAlloc ?_; refine N2 rfl rfl rfl rfl (fun _ => ?_)) | (refine IsBuild ?_; refine U1 rfl rfl rfl rfl rfl rfl ?_) | refine V1 rfl rfl rfl ?_) | (refine IsAt ?_; first | (with_reducible first | refine T1 ?_ | refine T2 ?_ | refine T3 ?_ | refine T4 ?_ | refine T5 ?_ | refine T6 ?_ | refine T7 ?_ | refine T8 ?_ | refine T9 ?_ | refine TA ?_ | refine TB ?_ | refine TC ?_) | ((with_reducible show At _ (PBlock _ _ (Exit.exit _)) _ _); first | refine At_block_hit ?_ | refine At_block_miss rfl ?_)) | (refine IsJ ?_; first | refine J_seq ?_ | refine J_region ?_ | refine J_block ?_ | refine J_skip ?_ | refine J_ret ?_ | refine J_exit ?_ | (refine IsCond ?_; first | refine J_cond_t rfl ?_ | refine J_cond_f rfl ?_ | refine K1 rfl ?_ | refine K2 rfl ?_ | refine K3 rfl ?_ | refine K4 rfl ?_ | refine J_cb rfl (fun _ => ?_) (fun _ => ?_) | refine J_nb rfl (fun _ => ?_) (fun _ => ?_))))
  refine JO_l (OL_call [0, 0, 0, 0, 0] rfl rfl rfl (StepD_end (pushEnd_ok (m := 0) (by simp [h1]) (by decide) (by decide) (by decide) (by simp) (by decide))) rfl) rfl rfl ?_; rintro _ _ ⟨_, ⟨a3, cap3, t3, rfl, rfl⟩, rfl⟩
  repeat' (first | (refine IsO ?_; first | refine JO_nil ?_ | (refine IsG ?_; first | refine G1 rfl rfl ?_ | refine G2 rfl ?_) | (refine IsMove ?_; first | refine M1 rfl rfl rfl ?_ | refine M2 rfl rfl rfl ?_ | refine M3 rfl rfl rfl ?_ | refine M4 rfl rfl rfl ?_ | refine M5 rfl rfl rfl (fun _ => ?_) (fun _ => ?_) | refine M6 rfl rfl rfl (fun _ => ?_) (fun _ => ?_)) | (refine IsBin ?_; first | refine B1 rfl rfl rfl rfl ?_ | refine B2 rfl rfl rfl rfl ?_ | refine B3 rfl rfl rfl rfl ?_ | refine B4 rfl rfl rfl rfl ?_ | refine B5 rfl rfl rfl rfl ?_ | refine B6 rfl rfl rfl rfl ?_ | refine B7 rfl rfl rfl rfl rfl ?_ | refine B8 rfl rfl rfl rfl rfl ?_ | refine B9 rfl rfl rfl rfl rfl rfl rfl ?_ | refine BA rfl rfl rfl rfl rfl rfl rfl ?_) | (refine IsConv ?_; refine C1 rfl rfl rfl rfl rfl ?_) | (refine IsLoad ?_; first | refine L1 rfl rfl rfl rfl ?_ | refine L2 rfl rfl rfl rfl rfl ?_) | (refine IsStore ?_; refine S1 rfl rfl rfl rfl rfl rfl rfl (fun _ => ?_)) | (refine IsBox ?_; refine N1 rfl rfl rfl rfl (fun _ => ?_)) | (refine IsAlloc ?_; refine N2 rfl rfl rfl rfl (fun _ => ?_)) | (refine IsBuild ?_; refine U1 rfl rfl rfl rfl rfl rfl ?_) | refine V1 rfl rfl rfl ?_) | (refine IsAt ?_; first | (with_reducible first | refine T1 ?_ | refine T2 ?_ | refine T3 ?_ | refine T4 ?_ | refine T5 ?_ | refine T6 ?_ | refine T7 ?_ | refine T8 ?_ | refine T9 ?_ | refine TA ?_ | refine TB ?_ | refine TC ?_) | ((with_reducible show At _ (PBlock _ _ (Exit.exit _)) _ _); first | refine At_block_hit ?_ | refine At_block_miss rfl ?_)) | (refine IsJ ?_; first | refine J_seq ?_ | refine J_region ?_ | refine J_block ?_ | refine J_skip ?_ | refine J_ret ?_ | refine J_exit ?_ | (refine IsCond ?_; first | refine J_cond_t rfl ?_ | refine J_cond_f rfl ?_ | refine K1 rfl ?_ | refine K2 rfl ?_ | refine K3 rfl ?_ | refine K4 rfl ?_ | refine J_cb rfl (fun _ => ?_) (fun _ => ?_) | refine J_nb rfl (fun _ => ?_) (fun _ => ?_))))
  refine JO_l (OL_call [0] rfl rfl rfl (ResultD_t) rfl) rfl rfl ?_; rintro _ _ ⟨_, ⟨rfl, rfl⟩, rfl⟩
  repeat' (first | (refine IsO ?_; first | refine JO_nil ?_ | (refine IsG ?_; first | refine G1 rfl rfl ?_ | refine G2 rfl ?_) | (refine IsMove ?_; first | refine M1 rfl rfl rfl ?_ | refine M2 rfl rfl rfl ?_ | refine M3 rfl rfl rfl ?_ | refine M4 rfl rfl rfl ?_ | refine M5 rfl rfl rfl (fun _ => ?_) (fun _ => ?_) | refine M6 rfl rfl rfl (fun _ => ?_) (fun _ => ?_)) | (refine IsBin ?_; first | refine B1 rfl rfl rfl rfl ?_ | refine B2 rfl rfl rfl rfl ?_ | refine B3 rfl rfl rfl rfl ?_ | refine B4 rfl rfl rfl rfl ?_ | refine B5 rfl rfl rfl rfl ?_ | refine B6 rfl rfl rfl rfl ?_ | refine B7 rfl rfl rfl rfl rfl ?_ | refine B8 rfl rfl rfl rfl rfl ?_ | refine B9 rfl rfl rfl rfl rfl rfl rfl ?_ | refine BA rfl rfl rfl rfl rfl rfl rfl ?_) | (refine IsConv ?_; refine C1 rfl rfl rfl rfl rfl ?_) | (refine IsLoad ?_; first | refine L1 rfl rfl rfl rfl ?_ | refine L2 rfl rfl rfl rfl rfl ?_) | (refine IsStore ?_; refine S1 rfl rfl rfl rfl rfl rfl rfl (fun _ => ?_)) | (refine IsBox ?_; refine N1 rfl rfl rfl rfl (fun _ => ?_)) | (refine IsAlloc ?_; refine N2 rfl rfl rfl rfl (fun _ => ?_)) | (refine IsBuild ?_; refine U1 rfl rfl rfl rfl rfl rfl ?_) | refine V1 rfl rfl rfl ?_) | (refine IsAt ?_; first | (with_reducible first | refine T1 ?_ | refine T2 ?_ | refine T3 ?_ | refine T4 ?_ | refine T5 ?_ | refine T6 ?_ | refine T7 ?_ | refine T8 ?_ | refine T9 ?_ | refine TA ?_ | refine TB ?_ | refine TC ?_) | ((with_reducible show At _ (PBlock _ _ (Exit.exit _)) _ _); first | refine At_block_hit ?_ | refine At_block_miss rfl ?_)) | (refine IsJ ?_; first | refine J_seq ?_ | refine J_region ?_ | refine J_block ?_ | refine J_skip ?_ | refine J_ret ?_ | refine J_exit ?_ | (refine IsCond ?_; first | refine J_cond_t rfl ?_ | refine J_cond_f rfl ?_ | refine K1 rfl ?_ | refine K2 rfl ?_ | refine K3 rfl ?_ | refine K4 rfl ?_ | refine J_cb rfl (fun _ => ?_) (fun _ => ?_) | refine J_nb rfl (fun _ => ?_) (fun _ => ?_))))
  have hQ := hD.push 5 (by decide)
  have e : (ws.set (2 + 0) 5).set 0 (((0 : Nat) : Int) + 1) = (ws.set (2 + (0 + ([] : List Int).length)) 5).set 0 (((0 + ([] : List Int).length : Nat) : Int) + 1) := rfl
  rw [e]
  generalize (ws.set (2 + (0 + ([] : List Int).length)) 5).set 0 (((0 + ([] : List Int).length : Nat) : Int) + 1) = ws' at hQ
  refine JO_l (OL_call [1, 1, 1, 1] rfl rfl rfl (deqWords_spec hQ (by decide) (by decide)) rfl) rfl rfl ?_; rintro _ _ ⟨_, ⟨R, a', c', hR, rfl, rfl⟩, rfl⟩
  repeat' (first | (refine IsO ?_; first | refine JO_nil ?_ | (refine IsG ?_; first | refine G1 rfl rfl ?_ | refine G2 rfl ?_) | (refine IsMove ?_; first | refine M1 rfl rfl rfl ?_ | refine M2 rfl rfl rfl ?_ | refine M3 rfl rfl rfl ?_ | refine M4 rfl rfl rfl ?_ | refine M5 rfl rfl rfl (fun _ => ?_) (fun _ => ?_) | refine M6 rfl rfl rfl (fun _ => ?_) (fun _ => ?_)) | (refine IsBin ?_; first | refine B1 rfl rfl rfl rfl ?_ | refine B2 rfl rfl rfl rfl ?_ | refine B3 rfl rfl rfl rfl ?_ | refine B4 rfl rfl rfl rfl ?_ | refine B5 rfl rfl rfl rfl ?_ | refine B6 rfl rfl rfl rfl ?_ | refine B7 rfl rfl rfl rfl rfl ?_ | refine B8 rfl rfl rfl rfl rfl ?_ | refine B9 rfl rfl rfl rfl rfl rfl rfl ?_ | refine BA rfl rfl rfl rfl rfl rfl rfl ?_) | (refine IsConv ?_; refine C1 rfl rfl rfl rfl rfl ?_) | (refine IsLoad ?_; first | refine L1 rfl rfl rfl rfl ?_ | refine L2 rfl rfl rfl rfl rfl ?_) | (refine IsStore ?_; refine S1 rfl rfl rfl rfl rfl rfl rfl (fun _ => ?_)) | (refine IsBox ?_; refine N1 rfl rfl rfl rfl (fun _ => ?_)) | (refine IsAlloc ?_; refine N2 rfl rfl rfl rfl (fun _ => ?_)) | (refine IsBuild ?_; refine U1 rfl rfl rfl rfl rfl rfl ?_) | refine V1 rfl rfl rfl ?_) | (refine IsAt ?_; first | (with_reducible first | refine T1 ?_ | refine T2 ?_ | refine T3 ?_ | refine T4 ?_ | refine T5 ?_ | refine T6 ?_ | refine T7 ?_ | refine T8 ?_ | refine T9 ?_ | refine TA ?_ | refine TB ?_ | refine TC ?_) | ((with_reducible show At _ (PBlock _ _ (Exit.exit _)) _ _); first | refine At_block_hit ?_ | refine At_block_miss rfl ?_)) | (refine IsJ ?_; first | refine J_seq ?_ | refine J_region ?_ | refine J_block ?_ | refine J_skip ?_ | refine J_ret ?_ | refine J_exit ?_ | (refine IsCond ?_; first | refine J_cond_t rfl ?_ | refine J_cond_f rfl ?_ | refine K1 rfl ?_ | refine K2 rfl ?_ | refine K3 rfl ?_ | refine K4 rfl ?_ | refine J_cb rfl (fun _ => ?_) (fun _ => ?_) | refine J_nb rfl (fun _ => ?_) (fun _ => ?_))))
  refine JO_l (OL_call [1, 1, 1, 1] rfl rfl rfl (deqWords_spec hQ (by decide) (by decide)) rfl) rfl rfl ?_; rintro _ _ ⟨_, ⟨R2, a2', c2', hR2, rfl, rfl⟩, rfl⟩
  refine JO_fact _ (fun w hs => hR2.some (by decide) hs (.head _)) ?_
  rintro ⟨b, o, rfl⟩
  refine JO_val (OV_idx (off := o + 0) rfl rfl rfl rfl (by omega) (by simp) (by simp)) rfl rfl ?_
  refine JO_q (OQ_read (v := .int .i64 5) hR2 (.head _) rfl rfl (by simp) rfl) rfl rfl ?_
  repeat' (first | (refine IsO ?_; first | refine JO_nil ?_ | (refine IsG ?_; first | refine G1 rfl rfl ?_ | refine G2 rfl ?_) | (refine IsMove ?_; first | refine M1 rfl rfl rfl ?_ | refine M2 rfl rfl rfl ?_ | refine M3 rfl rfl rfl ?_ | refine M4 rfl rfl rfl ?_ | refine M5 rfl rfl rfl (fun _ => ?_) (fun _ => ?_) | refine M6 rfl rfl rfl (fun _ => ?_) (fun _ => ?_)) | (refine IsBin ?_; first | refine B1 rfl rfl rfl rfl ?_ | refine B2 rfl rfl rfl rfl ?_ | refine B3 rfl rfl rfl rfl ?_ | refine B4 rfl rfl rfl rfl ?_ | refine B5 rfl rfl rfl rfl ?_ | refine B6 rfl rfl rfl rfl ?_ | refine B7 rfl rfl rfl rfl rfl ?_ | refine B8 rfl rfl rfl rfl rfl ?_ | refine B9 rfl rfl rfl rfl rfl rfl rfl ?_ | refine BA rfl rfl rfl rfl rfl rfl rfl ?_) | (refine IsConv ?_; refine C1 rfl rfl rfl rfl rfl ?_) | (refine IsLoad ?_; first | refine L1 rfl rfl rfl rfl ?_ | refine L2 rfl rfl rfl rfl rfl ?_) | (refine IsStore ?_; refine S1 rfl rfl rfl rfl rfl rfl rfl (fun _ => ?_)) | (refine IsBox ?_; refine N1 rfl rfl rfl rfl (fun _ => ?_)) | (refine IsAlloc ?_; refine N2 rfl rfl rfl rfl (fun _ => ?_)) | (refine IsBuild ?_; refine U1 rfl rfl rfl rfl rfl rfl ?_) | refine V1 rfl rfl rfl ?_) | (refine IsAt ?_; first | (with_reducible first | refine T1 ?_ | refine T2 ?_ | refine T3 ?_ | refine T4 ?_ | refine T5 ?_ | refine T6 ?_ | refine T7 ?_ | refine T8 ?_ | refine T9 ?_ | refine TA ?_ | refine TB ?_ | refine TC ?_) | ((with_reducible show At _ (PBlock _ _ (Exit.exit _)) _ _); first | refine At_block_hit ?_ | refine At_block_miss rfl ?_)) | (refine IsJ ?_; first | refine J_seq ?_ | refine J_region ?_ | refine J_block ?_ | refine J_skip ?_ | refine J_ret ?_ | refine J_exit ?_ | (refine IsCond ?_; first | refine J_cond_t rfl ?_ | refine J_cond_f rfl ?_ | refine K1 rfl ?_ | refine K2 rfl ?_ | refine K3 rfl ?_ | refine K4 rfl ?_ | refine J_cb rfl (fun _ => ?_) (fun _ => ?_) | refine J_nb rfl (fun _ => ?_) (fun _ => ?_))))
  all_goals first | exact At_ret1 rfl rfl rfl (is := []) rfl ⟨rfl, rfl⟩ | (rename_i hx; exact absurd (by simp) hx)
end Go.Proofs.Ytjllfgocgehpeaa
/-
  Our own: the law function besomlaw06.DequeShared.
-/
set_option linter.unusedVariables false
set_option linter.unusedSimpArgs false
namespace Go.Proofs.Ytjllfgocgehpeaa
open Go.Sep
abbrev u8D (zs : List Int) : List Value := zs.map (Value.int .u8)
section begins
variable {cs : List DK} {pu next : Int} {m : Nat} {ws P : List Int} {T : Nat} {k : Nat} {x : DK}
theorem DHI.steal (h : DHI cs pu next m ws P T) (hk : 0 < k) (hk4 : k < 4) (c : Nat) : DHI (cs.set k ⟨k, true, false, c, 0, 0, 0, 0⟩) pu next m ws P T :=
  h.quiet _ rfl hk4 (Nat.le_refl _) (fun e => by omega) (fun _ => rfl) (fun _ _ => ⟨rfl, Nat.zero_le _, fun e => (by cases e), fun e => (by cases e), fun e => (by cases e), fun e => (by cases e)⟩)
theorem DHI.popB (h : DHI cs pu next m ws P T) (hx : cs[0]? = some x) (ho : x.on = false) (c : Nat) : DHI (cs.set 0 ⟨0, true, false, c, 0, 0, 0, 0⟩) pu next m ws P T := by
  obtain ⟨h1, h2⟩ := (h.own x hx).1 ho
  refine h.quiet _ rfl (by decide) (Nat.le_refl _) (fun _ => ⟨fun e => (by cases e), fun _ e => (by cases e), fun _ _ => ⟨h1, Nat.zero_le _, fun _ => h2, ?_, ?_, ?_, ?_, ?_, ?_, ?_, ?_⟩⟩) (fun e => absurd rfl e) (fun e => absurd rfl e)
  all_goals (dsimp only; intros; omega)
theorem DHI.pushB (h : DHI cs pu next m ws P T) (hx : cs[0]? = some x) (ho : x.on = false) (hn : 1 ≤ next) (c : Nat) : DHI (cs.set 0 ⟨0, true, true, c, 0, 0, 0, next⟩) next (next + 1) m ws P T := by
  obtain ⟨h1, h2⟩ := (h.own x hx).1 ho
  exact h.upd _ rfl (by decide) h.wl h.tp h.tb h.ph h.pa (fun y hy => by have := h.pb y hy; omega) (fun _ => ⟨fun e => (by cases e), fun _ _ => ⟨rfl, by show 0 < next; omega, by show next < next + 1; omega, Nat.zero_le _, h2, fun e => (by cases e), fun e => (by cases e)⟩, fun _ e => (by cases e)⟩) (fun e => absurd rfl e) (fun e => absurd rfl e) (fun _ e => e)
theorem DHI.sle (h : DHI cs pu next m ws P T) (hx : cs[k]? = some x) (ho : x.on = true) : x.s ≤ 6 := by
  by_cases hk : k = 0
  · subst hk
    cases hp : x.push with
    | true => have := ((h.own x hx).2.1 ho hp).2.2.2.1; omega
    | false => exact ((h.own x hx).2.2 ho hp).2.1
  · have := (h.th k x (by omega) hx ho).2.1
    omega
theorem DHI.fin (h : DHI cs pu next m ws P T) (hoff : ∀ (j : Nat) (x : DK), cs[j]? = some x → x.on = false) : Deq 40 ws (T / 4096) (T % 4096) P := by
  have hcl := h.cl
  have hx : cs[0]? = some cs[0] := List.getElem?_eq_getElem _
  exact ⟨h.wl, ((h.own _ hx).1 (hoff _ _ hx)).2, by rw [h.tp]; congr 1; omega, h.ph, h.pa⟩
end begins
abbrev ds0 : List DK := [⟨0, false, false, 0, 0, 0, 0, 0⟩, ⟨1, false, false, 0, 0, 0, 0, 0⟩, ⟨2, false, false, 0, 0, 0, 0, 0⟩, ⟨3, false, false, 0, 0, 0, 0, 0⟩]
theorem ds0_off (j : Nat) (x : DK) (hx : ds0[j]? = some x) : x.k = j ∧ x.on = false := by
  match j, hx with
  | 0, hx => injection hx with hx; subst hx; exact ⟨rfl, rfl⟩
  | 1, hx => injection hx with hx; subst hx; exact ⟨rfl, rfl⟩
  | 2, hx => injection hx with hx; subst hx; exact ⟨rfl, rfl⟩
  | 3, hx => injection hx with hx; subst hx; exact ⟨rfl, rfl⟩
theorem DHI.new : DHI ds0 0 1 0 (List.replicate 42 0) [] 0 := by
  refine ⟨rfl, fun j x hx => (ds0_off j x hx).1, by simp, rfl, by decide, by decide, fun i hi => absurd hi (Nat.not_lt_zero _), fun y hy => (by cases hy), fun x hx => OwnD.off (ds0_off 0 x hx).2 rfl rfl, fun j x _ hx ho => ?_⟩
  have := (ds0_off j x hx).2
  rw [ho] at this
  cases this
theorem slotsD_new (p : Nat) {l : List HP} {H : PH} (h : Stars l H) : Stars (bigM (slotHD p) ds0 :: l) H := by
  refine ⟨fun _ => none, H, fun _ => .inl rfl, (fun _ _ e => by cases e), Sub.refl _, ?_, h⟩
  have hn : ∀ (l : List HP) , (∀ q ∈ l, q (fun _ => none)) → Stars l (fun _ => none) := by
    intro l
    induction l with
    | nil => exact fun _ => trivial
    | cons q l ih => exact fun hq => ⟨fun _ => none, fun _ => none, fun _ => .inl rfl, (fun _ _ e => by cases e), (fun _ _ e => by cases e), hq q (.head _), ih fun r hr => hq r (.tail _ hr)⟩
  refine hn _ fun q hq => ?_
  obtain ⟨x, hx, rfl⟩ := List.mem_map.1 hq
  obtain ⟨j, hj⟩ := List.getElem?_of_mem hx
  unfold slotHD
  rw [if_neg (by rw [(ds0_off j x hj).2]; decide)]
  trivial
/-- All that turns while calls go on. -/
structure DhG where
  cs : List DK
  pu : Int
  next : Int
  f : Int → Int
  ws : List Int
  P : List Int
  T : Nat
  a : Option Addr
  cap : Nat
  lg : List Tch
  nn : Nat
structure DhOk (s : DhG) (t : Nat) : Prop where
  i : DHI s.cs s.pu s.next t s.ws s.P s.T
  f : ∀ y, s.f y = (s.P.count y : Int)
  lg : s.lg.length ≤ t
  nn : s.nn ≤ t
abbrev dhM (p pc bw b7 b8 b9 b10 b11 bm : Nat) (s : DhG) : List HP := dhMem p pc bw b7 b8 b9 b10 b11 bm s.nn s.cs s.pu s.next s.f s.a s.cap s.ws s.lg
theorem dhStep (p pc bw b7 b8 b9 b10 b11 bm k t : Nat) (s : DhG) (h : DhOk s t) (hk : k < 4) (ht : t ≤ 5000) (hn : 1 ≤ s.next ∧ s.next ≤ 1000) :
    Does Try.prog 41 [.int .i64 k, ptr b7 0, ptr b11 0] (dhM p pc bw b7 b8 b9 b10 b11 bm s)
    (fun v l => ∃ s' : DhG, DhOk s' (t + 1) ∧ s'.next = s.next ∧ wentD s.cs s'.cs k ∧ v = .bool true ∧ l = dhM p pc bw b7 b8 b9 b10 b11 bm s') := by
  have hlg := h.lg
  have hnn := h.nn
  refine (dhStep_spec (p := p) (pc := pc) (bw := bw) (b7 := b7) (b8 := b8) (b9 := b9) (b10 := b10) (b11 := b11) (bm := bm) (nn := s.nn) (a := s.a) (cap := s.cap) (lg := s.lg) h.i (by omega) hk (by omega) (by omega) hn h.f).mono ?_
  rintro v l ⟨cs', pu', f', ws', P', T', a', cap', lg', nn', hI, hf, h1, h2, h3, h4, h5⟩
  exact ⟨⟨cs', pu', s.next, f', ws', P', T', a', cap', lg', nn'⟩, ⟨hI, hf, by show lg'.length ≤ t + 1; omega, by show nn' ≤ t + 1; omega⟩, rfl, h3, h4, h5⟩
set_option maxHeartbeats 64000000 in
theorem DequeShared_law {W0 : World} {acs zs : List Int} {aa za : Option Addr} {ac zc : Nat} (hA : Reads (Low W0) 1 acs.length aa ac (u8D acs)) (hAb : ∀ z ∈ acs, 0 ≤ z ∧ z ≤ 255) (hAl : acs.length ≤ 9223372036854775807)
    (hZ : Reads (Low W0) 1 zs.length za zc (u8D zs)) (hZb : ∀ z ∈ zs, 0 ≤ z ∧ z ≤ 255) (hZl : zs.length ≤ 9223372036854775807) :
    Does Try.prog 13 [.slice aa acs.length ac, .slice za zs.length zc] [Low W0] (fun v l => v = .bool true ∧ l = [Low W0]) := by
  refine Does.of tiok Try.func13 (by kernel_rfl) rfl Try.ntmps13 rfl ?_
  intro W fr
  repeat' (first | (refine IsO ?_; first | refine JO_nil ?_ | (refine IsG ?_; first | refine G1 rfl rfl ?_ | refine G2 rfl ?_) | (refine IsMove ?_; first | refine M1 rfl rfl rfl ?_ | refine M2 rfl rfl rfl ?_ | refine M3 rfl rfl rfl ?_ | refine M4 rfl rfl rfl ?_ | refine M5 rfl rfl rfl (fun _ => ?_) (fun _ => ?_) | refine M6 rfl rfl rfl (fun _ => ?_) (fun _ => ?_)) | (refine IsBin ?_; first | refine B1 rfl rfl rfl rfl ?_ | refine B2 rfl rfl rfl rfl ?_ | refine B3 rfl rfl rfl rfl ?_ | refine B4 rfl rfl rfl rfl ?_ | refine B5 rfl rfl rfl rfl ?_ | refine B6 rfl rfl rfl rfl ?_ | refine B7 rfl rfl rfl rfl rfl ?_ | refine B8 rfl rfl rfl rfl rfl ?_ | refine B9 rfl rfl rfl rfl rfl rfl rfl ?_ | refine BA rfl rfl rfl rfl rfl rfl rfl ?_) | (refine IsConv ?_; refine C1 rfl rfl rfl rfl rfl ?_) | (refine IsLoad ?_; first | refine L1 rfl rfl rfl rfl ?_ | refine L2 rfl rfl rfl rfl rfl ?_) | (refine IsStore ?_; refine S1 rfl rfl rfl rfl rfl rfl rfl (fun _ => ?_)) | (refine IsBox ?_; refine N1 rfl rfl rfl rfl (fun _ => ?_)) | (refine IsAlloc ?_; refine N2 rfl rfl rfl rfl (fun _ => ?_)) | (refine IsBuild ?_; refine U1 rfl rfl rfl rfl rfl rfl ?_) | refine V1 rfl rfl rfl ?_) | (refine IsAt ?_; first | (with_reducible first | refine T1 ?_ | refine T2 ?_ | refine T3 ?_ | refine T4 ?_ | refine T5 ?_ | refine T6 ?_ | refine T7 ?_ | refine T8 ?_ | refine T9 ?_ | refine TA ?_ | refine TB ?_ | refine TC ?_) | ((with_reducible show At _ (PBlock _ _ (Exit.exit _)) _ _); first | refine At_block_hit ?_ | refine At_block_miss rfl ?_)) | (refine IsJ ?_; first | refine J_seq ?_ | refine J_region ?_ | refine J_block ?_ | refine J_skip ?_ | refine J_ret ?_ | refine J_exit ?_ | (refine IsCond ?_; first | refine J_cond_t rfl ?_ | refine J_cond_f rfl ?_ | refine K1 rfl ?_ | refine K2 rfl ?_ | refine K3 rfl ?_ | refine K4 rfl ?_ | refine J_cb rfl (fun _ => ?_) (fun _ => ?_) | refine J_nb rfl (fun _ => ?_) (fun _ => ?_))))
  refine JO_l (OL_call [] rfl rfl rfl (awake6_spec) rfl) rfl rfl ?_; rintro _ _ ⟨_, ⟨rfl, rfl⟩, rfl⟩
  repeat' (first | (refine IsO ?_; first | refine JO_nil ?_ | (refine IsG ?_; first | refine G1 rfl rfl ?_ | refine G2 rfl ?_) | (refine IsMove ?_; first | refine M1 rfl rfl rfl ?_ | refine M2 rfl rfl rfl ?_ | refine M3 rfl rfl rfl ?_ | refine M4 rfl rfl rfl ?_ | refine M5 rfl rfl rfl (fun _ => ?_) (fun _ => ?_) | refine M6 rfl rfl rfl (fun _ => ?_) (fun _ => ?_)) | (refine IsBin ?_; first | refine B1 rfl rfl rfl rfl ?_ | refine B2 rfl rfl rfl rfl ?_ | refine B3 rfl rfl rfl rfl ?_ | refine B4 rfl rfl rfl rfl ?_ | refine B5 rfl rfl rfl rfl ?_ | refine B6 rfl rfl rfl rfl ?_ | refine B7 rfl rfl rfl rfl rfl ?_ | refine B8 rfl rfl rfl rfl rfl ?_ | refine B9 rfl rfl rfl rfl rfl rfl rfl ?_ | refine BA rfl rfl rfl rfl rfl rfl rfl ?_) | (refine IsConv ?_; refine C1 rfl rfl rfl rfl rfl ?_) | (refine IsLoad ?_; first | refine L1 rfl rfl rfl rfl ?_ | refine L2 rfl rfl rfl rfl rfl ?_) | (refine IsStore ?_; refine S1 rfl rfl rfl rfl rfl rfl rfl (fun _ => ?_)) | (refine IsBox ?_; refine N1 rfl rfl rfl rfl (fun _ => ?_)) | (refine IsAlloc ?_; refine N2 rfl rfl rfl rfl (fun _ => ?_)) | (refine IsBuild ?_; refine U1 rfl rfl rfl rfl rfl rfl ?_) | refine V1 rfl rfl rfl ?_) | (refine IsAt ?_; first | (with_reducible first | refine T1 ?_ | refine T2 ?_ | refine T3 ?_ | refine T4 ?_ | refine T5 ?_ | refine T6 ?_ | refine T7 ?_ | refine T8 ?_ | refine T9 ?_ | refine TA ?_ | refine TB ?_ | refine TC ?_) | ((with_reducible show At _ (PBlock _ _ (Exit.exit _)) _ _); first | refine At_block_hit ?_ | refine At_block_miss rfl ?_)) | (refine IsJ ?_; first | refine J_seq ?_ | refine J_region ?_ | refine J_block ?_ | refine J_skip ?_ | refine J_ret ?_ | refine J_exit ?_ | (refine IsCond ?_; first | refine J_cond_t rfl ?_ | refine J_cond_f rfl ?_ | refine K1 rfl ?_ | refine K2 rfl ?_ | refine K3 rfl ?_ | refine K4 rfl ?_ | refine J_cb rfl (fun _ => ?_) (fun _ => ?_) | refine J_nb rfl (fun _ => ?_) (fun _ => ?_))))
  · refine JO_l (OL_call [] rfl rfl rfl (awake6_spec) rfl) rfl rfl ?_; rintro _ _ ⟨_, ⟨rfl, rfl⟩, rfl⟩
    repeat' (first | (refine IsO ?_; first | refine JO_nil ?_ | (refine IsG ?_; first | refine G1 rfl rfl ?_ | refine G2 rfl ?_) | (refine IsMove ?_; first | refine M1 rfl rfl rfl ?_ | refine M2 rfl rfl rfl ?_ | refine M3 rfl rfl rfl ?_ | refine M4 rfl rfl rfl ?_ | refine M5 rfl rfl rfl (fun _ => ?_) (fun _ => ?_) | refine M6 rfl rfl rfl (fun _ => ?_) (fun _ => ?_)) | (refine IsBin ?_; first | refine B1 rfl rfl rfl rfl ?_ | refine B2 rfl rfl rfl rfl ?_ | refine B3 rfl rfl rfl rfl ?_ | refine B4 rfl rfl rfl rfl ?_ | refine B5 rfl rfl rfl rfl ?_ | refine B6 rfl rfl rfl rfl ?_ | refine B7 rfl rfl rfl rfl rfl ?_ | refine B8 rfl rfl rfl rfl rfl ?_ | refine B9 rfl rfl rfl rfl rfl rfl rfl ?_ | refine BA rfl rfl rfl rfl rfl rfl rfl ?_) | (refine IsConv ?_; refine C1 rfl rfl rfl rfl rfl ?_) | (refine IsLoad ?_; first | refine L1 rfl rfl rfl rfl ?_ | refine L2 rfl rfl rfl rfl rfl ?_) | (refine IsStore ?_; refine S1 rfl rfl rfl rfl rfl rfl rfl (fun _ => ?_)) | (refine IsBox ?_; refine N1 rfl rfl rfl rfl (fun _ => ?_)) | (refine IsAlloc ?_; refine N2 rfl rfl rfl rfl (fun _ => ?_)) | (refine IsBuild ?_; refine U1 rfl rfl rfl rfl rfl rfl ?_) | refine V1 rfl rfl rfl ?_) | (refine IsAt ?_; first | (with_reducible first | refine T1 ?_ | refine T2 ?_ | refine T3 ?_ | refine T4 ?_ | refine T5 ?_ | refine T6 ?_ | refine T7 ?_ | refine T8 ?_ | refine T9 ?_ | refine TA ?_ | refine TB ?_ | refine TC ?_) | ((with_reducible show At _ (PBlock _ _ (Exit.exit _)) _ _); first | refine At_block_hit ?_ | refine At_block_miss rfl ?_)) | (refine IsJ ?_; first | refine J_seq ?_ | refine J_region ?_ | refine J_block ?_ | refine J_skip ?_ | refine J_ret ?_ | refine J_exit ?_ | (refine IsCond ?_; first | refine J_cond_t rfl ?_ | refine J_cond_f rfl ?_ | refine K1 rfl ?_ | refine K2 rfl ?_ | refine K3 rfl ?_ | refine K4 rfl ?_ | refine J_cb rfl (fun _ => ?_) (fun _ => ?_) | refine J_nb rfl (fun _ => ?_) (fun _ => ?_))))
    exact At_ret rfl rfl (.tmp rfl .nil) rfl (is := [0]) rfl ⟨rfl, rfl⟩
  · refine JO_l (OL_call [] rfl rfl rfl (awake6_spec) rfl) rfl rfl ?_; rintro _ _ ⟨_, ⟨rfl, rfl⟩, rfl⟩
    repeat' (first | (refine IsO ?_; first | refine JO_nil ?_ | (refine IsG ?_; first | refine G1 rfl rfl ?_ | refine G2 rfl ?_) | (refine IsMove ?_; first | refine M1 rfl rfl rfl ?_ | refine M2 rfl rfl rfl ?_ | refine M3 rfl rfl rfl ?_ | refine M4 rfl rfl rfl ?_ | refine M5 rfl rfl rfl (fun _ => ?_) (fun _ => ?_) | refine M6 rfl rfl rfl (fun _ => ?_) (fun _ => ?_)) | (refine IsBin ?_; first | refine B1 rfl rfl rfl rfl ?_ | refine B2 rfl rfl rfl rfl ?_ | refine B3 rfl rfl rfl rfl ?_ | refine B4 rfl rfl rfl rfl ?_ | refine B5 rfl rfl rfl rfl ?_ | refine B6 rfl rfl rfl rfl ?_ | refine B7 rfl rfl rfl rfl rfl ?_ | refine B8 rfl rfl rfl rfl rfl ?_ | refine B9 rfl rfl rfl rfl rfl rfl rfl ?_ | refine BA rfl rfl rfl rfl rfl rfl rfl ?_) | (refine IsConv ?_; refine C1 rfl rfl rfl rfl rfl ?_) | (refine IsLoad ?_; first | refine L1 rfl rfl rfl rfl ?_ | refine L2 rfl rfl rfl rfl rfl ?_) | (refine IsStore ?_; refine S1 rfl rfl rfl rfl rfl rfl rfl (fun _ => ?_)) | (refine IsBox ?_; refine N1 rfl rfl rfl rfl (fun _ => ?_)) | (refine IsAlloc ?_; refine N2 rfl rfl rfl rfl (fun _ => ?_)) | (refine IsBuild ?_; refine U1 rfl rfl rfl rfl rfl rfl ?_) | refine V1 rfl rfl rfl ?_) | (refine IsAt ?_; first | (with_reducible first | refine T1 ?_ | refine T2 ?_ | refine T3 ?_ | refine T4 ?_ | refine T5 ?_ | refine T6 ?_ | refine T7 ?_ | refine T8 ?_ | refine T9 ?_ | refine TA ?_ | refine TB ?_ | refine TC ?_) | ((with_reducible show At _ (PBlock _ _ (Exit.exit _)) _ _); first | refine At_block_hit ?_ | refine At_block_miss rfl ?_)) | (refine IsJ ?_; first | refine J_seq ?_ | refine J_region ?_ | refine J_block ?_ | refine J_skip ?_ | refine J_ret ?_ | refine J_exit ?_ | (refine IsCond ?_; first | refine J_cond_t rfl ?_ | refine J_cond_f rfl ?_ | refine K1 rfl ?_ | refine K2 rfl ?_ | refine K3 rfl ?_ | refine K4 rfl ?_ | refine J_cb rfl (fun _ => ?_) (fun _ => ?_) | refine J_nb rfl (fun _ => ?_) (fun _ => ?_))))
    exact At_ret rfl rfl (.tmp rfl .nil) rfl (is := [0]) rfl ⟨rfl, rfl⟩
  rename_i h60 h400
  have hNew : Does Try.prog 30 [.int .i64 40] [] _ := deqNew_ok 40 (by decide) (by decide)
  refine JO_l (OL_call [] rfl rfl rfl (hNew) rfl) rfl rfl ?_; rintro _ _ ⟨_, ⟨p, pc, bw, rfl, rfl⟩, rfl⟩
  repeat' (first | (refine IsO ?_; first | refine JO_nil ?_ | (refine IsG ?_; first | refine G1 rfl rfl ?_ | refine G2 rfl ?_) | (refine IsMove ?_; first | refine M1 rfl rfl rfl ?_ | refine M2 rfl rfl rfl ?_ | refine M3 rfl rfl rfl ?_ | refine M4 rfl rfl rfl ?_ | refine M5 rfl rfl rfl (fun _ => ?_) (fun _ => ?_) | refine M6 rfl rfl rfl (fun _ => ?_) (fun _ => ?_)) | (refine IsBin ?_; first | refine B1 rfl rfl rfl rfl ?_ | refine B2 rfl rfl rfl rfl ?_ | refine B3 rfl rfl rfl rfl ?_ | refine B4 rfl rfl rfl rfl ?_ | refine B5 rfl rfl rfl rfl ?_ | refine B6 rfl rfl rfl rfl ?_ | refine B7 rfl rfl rfl rfl rfl ?_ | refine B8 rfl rfl rfl rfl rfl ?_ | refine B9 rfl rfl rfl rfl rfl rfl rfl ?_ | refine BA rfl rfl rfl rfl rfl rfl rfl ?_) | (refine IsConv ?_; refine C1 rfl rfl rfl rfl rfl ?_) | (refine IsLoad ?_; first | refine L1 rfl rfl rfl rfl ?_ | refine L2 rfl rfl rfl rfl rfl ?_) | (refine IsStore ?_; refine S1 rfl rfl rfl rfl rfl rfl rfl (fun _ => ?_)) | (refine IsBox ?_; refine N1 rfl rfl rfl rfl (fun _ => ?_)) | (refine IsAlloc ?_; refine N2 rfl rfl rfl rfl (fun _ => ?_)) | (refine IsBuild ?_; refine U1 rfl rfl rfl rfl rfl rfl ?_) | refine V1 rfl rfl rfl ?_) | (refine IsAt ?_; first | (with_reducible first | refine T1 ?_ | refine T2 ?_ | refine T3 ?_ | refine T4 ?_ | refine T5 ?_ | refine T6 ?_ | refine T7 ?_ | refine T8 ?_ | refine T9 ?_ | refine TA ?_ | refine TB ?_ | refine TC ?_) | ((with_reducible show At _ (PBlock _ _ (Exit.exit _)) _ _); first | refine At_block_hit ?_ | refine At_block_miss rfl ?_)) | (refine IsJ ?_; first | refine J_seq ?_ | refine J_region ?_ | refine J_block ?_ | refine J_skip ?_ | refine J_ret ?_ | refine J_exit ?_ | (refine IsCond ?_; first | refine J_cond_t rfl ?_ | refine J_cond_f rfl ?_ | refine K1 rfl ?_ | refine K2 rfl ?_ | refine K3 rfl ?_ | refine K4 rfl ?_ | refine J_cb rfl (fun _ => ?_) (fun _ => ?_) | refine J_nb rfl (fun _ => ?_) (fun _ => ?_))))
  refine JO_val (OV_buildA0 rfl rfl) rfl rfl ?_
  repeat' (first | (refine IsO ?_; first | refine JO_nil ?_ | (refine IsG ?_; first | refine G1 rfl rfl ?_ | refine G2 rfl ?_) | (refine IsMove ?_; first | refine M1 rfl rfl rfl ?_ | refine M2 rfl rfl rfl ?_ | refine M3 rfl rfl rfl ?_ | refine M4 rfl rfl rfl ?_ | refine M5 rfl rfl rfl (fun _ => ?_) (fun _ => ?_) | refine M6 rfl rfl rfl (fun _ => ?_) (fun _ => ?_)) | (refine IsBin ?_; first | refine B1 rfl rfl rfl rfl ?_ | refine B2 rfl rfl rfl rfl ?_ | refine B3 rfl rfl rfl rfl ?_ | refine B4 rfl rfl rfl rfl ?_ | refine B5 rfl rfl rfl rfl ?_ | refine B6 rfl rfl rfl rfl ?_ | refine B7 rfl rfl rfl rfl rfl ?_ | refine B8 rfl rfl rfl rfl rfl ?_ | refine B9 rfl rfl rfl rfl rfl rfl rfl ?_ | refine BA rfl rfl rfl rfl rfl rfl rfl ?_) | (refine IsConv ?_; refine C1 rfl rfl rfl rfl rfl ?_) | (refine IsLoad ?_; first | refine L1 rfl rfl rfl rfl ?_ | refine L2 rfl rfl rfl rfl rfl ?_) | (refine IsStore ?_; refine S1 rfl rfl rfl rfl rfl rfl rfl (fun _ => ?_)) | (refine IsBox ?_; refine N1 rfl rfl rfl rfl (fun _ => ?_)) | (refine IsAlloc ?_; refine N2 rfl rfl rfl rfl (fun _ => ?_)) | (refine IsBuild ?_; refine U1 rfl rfl rfl rfl rfl rfl ?_) | refine V1 rfl rfl rfl ?_) | (refine IsAt ?_; first | (with_reducible first | refine T1 ?_ | refine T2 ?_ | refine T3 ?_ | refine T4 ?_ | refine T5 ?_ | refine T6 ?_ | refine T7 ?_ | refine T8 ?_ | refine T9 ?_ | refine TA ?_ | refine TB ?_ | refine TC ?_) | ((with_reducible show At _ (PBlock _ _ (Exit.exit _)) _ _); first | refine At_block_hit ?_ | refine At_block_miss rfl ?_)) | (refine IsJ ?_; first | refine J_seq ?_ | refine J_region ?_ | refine J_block ?_ | refine J_skip ?_ | refine J_ret ?_ | refine J_exit ?_ | (refine IsCond ?_; first | refine J_cond_t rfl ?_ | refine J_cond_f rfl ?_ | refine K1 rfl ?_ | refine K2 rfl ?_ | refine K3 rfl ?_ | refine K4 rfl ?_ | refine J_cb rfl (fun _ => ?_) (fun _ => ?_) | refine J_nb rfl (fun _ => ?_) (fun _ => ?_))))
  refine JO_l (OL_makeMap (k := 3) (e := 3) Try.underlying3) rfl rfl ?_
  rintro _ _ ⟨bm, rfl, rfl⟩
  repeat' (first | (refine IsO ?_; first | refine JO_nil ?_ | (refine IsG ?_; first | refine G1 rfl rfl ?_ | refine G2 rfl ?_) | (refine IsMove ?_; first | refine M1 rfl rfl rfl ?_ | refine M2 rfl rfl rfl ?_ | refine M3 rfl rfl rfl ?_ | refine M4 rfl rfl rfl ?_ | refine M5 rfl rfl rfl (fun _ => ?_) (fun _ => ?_) | refine M6 rfl rfl rfl (fun _ => ?_) (fun _ => ?_)) | (refine IsBin ?_; first | refine B1 rfl rfl rfl rfl ?_ | refine B2 rfl rfl rfl rfl ?_ | refine B3 rfl rfl rfl rfl ?_ | refine B4 rfl rfl rfl rfl ?_ | refine B5 rfl rfl rfl rfl ?_ | refine B6 rfl rfl rfl rfl ?_ | refine B7 rfl rfl rfl rfl rfl ?_ | refine B8 rfl rfl rfl rfl rfl ?_ | refine B9 rfl rfl rfl rfl rfl rfl rfl ?_ | refine BA rfl rfl rfl rfl rfl rfl rfl ?_) | (refine IsConv ?_; refine C1 rfl rfl rfl rfl rfl ?_) | (refine IsLoad ?_; first | refine L1 rfl rfl rfl rfl ?_ | refine L2 rfl rfl rfl rfl rfl ?_) | (refine IsStore ?_; refine S1 rfl rfl rfl rfl rfl rfl rfl (fun _ => ?_)) | (refine IsBox ?_; refine N1 rfl rfl rfl rfl (fun _ => ?_)) | (refine IsAlloc ?_; refine N2 rfl rfl rfl rfl (fun _ => ?_)) | (refine IsBuild ?_; refine U1 rfl rfl rfl rfl rfl rfl ?_) | refine V1 rfl rfl rfl ?_) | (refine IsAt ?_; first | (with_reducible first | refine T1 ?_ | refine T2 ?_ | refine T3 ?_ | refine T4 ?_ | refine T5 ?_ | refine T6 ?_ | refine T7 ?_ | refine T8 ?_ | refine T9 ?_ | refine TA ?_ | refine TB ?_ | refine TC ?_) | ((with_reducible show At _ (PBlock _ _ (Exit.exit _)) _ _); first | refine At_block_hit ?_ | refine At_block_miss rfl ?_)) | (refine IsJ ?_; first | refine J_seq ?_ | refine J_region ?_ | refine J_block ?_ | refine J_skip ?_ | refine J_ret ?_ | refine J_exit ?_ | (refine IsCond ?_; first | refine J_cond_t rfl ?_ | refine J_cond_f rfl ?_ | refine K1 rfl ?_ | refine K2 rfl ?_ | refine K3 rfl ?_ | refine K4 rfl ?_ | refine J_cb rfl (fun _ => ?_) (fun _ => ?_) | refine J_nb rfl (fun _ => ?_) (fun _ => ?_))))
  rename_i b7 _ b8 b9 _ b10 _ b11 _
  refine J_loop (α := Nat × Nat × DhG) (fun x => x.1 ≤ zs.length ∧ x.2.1 ≤ acs.length ∧ DhOk x.2.2 x.1 ∧ 1 ≤ x.2.2.next ∧ x.2.2.next ≤ 1 + x.2.1)
    (fun x => [(0, .slice aa acs.length ac), (5, ptr p 0), (7, ptr b7 0), (8, ptr b8 0), (9, ptr b9 0), (10, ptr b10 0), (12, .func (.func 41) #[] #[ptr b7 0, ptr b11 0]), (13, .int .i64 x.2.1), (50, .slice za zs.length zc), (51, .int .i64 zs.length), (52, .int .i64 x.1)])
    (fun x => dhM p pc bw b7 b8 b9 b10 b11 bm x.2.2 ++ [Low W0]) (fun x => zs.length - x.1) (0, 0, ⟨ds0, 0, 1, fun _ => 0, List.replicate 42 0, [], 0, none, 0, [], 0⟩)
    ⟨Nat.zero_le _, Nat.zero_le _, ⟨DHI.new, fun _ => rfl, Nat.le_refl _, Nat.le_refl _⟩, by decide, by decide⟩ (by repeat (first | exact True.intro | refine And.intro rfl ?_)) (fun H hl => (slotsD_new p hl).pick (is := [0, 5, 4, 2, 1, 1, 0, 0, 0, 0, 0, 0]) rfl) ?_
  rintro ⟨i, at_, s⟩ ⟨hi, hat, hok, hn1, hn2⟩
  dsimp only at hi hat hok hn1 hn2 ⊢
  repeat' (first | (refine IsO ?_; first | refine JO_nil ?_ | (refine IsG ?_; first | refine G1 rfl rfl ?_ | refine G2 rfl ?_) | (refine IsMove ?_; first | refine M1 rfl rfl rfl ?_ | refine M2 rfl rfl rfl ?_ | refine M3 rfl rfl rfl ?_ | refine M4 rfl rfl rfl ?_ | refine M5 rfl rfl rfl (fun _ => ?_) (fun _ => ?_) | refine M6 rfl rfl rfl (fun _ => ?_) (fun _ => ?_)) | (refine IsBin ?_; first | refine B1 rfl rfl rfl rfl ?_ | refine B2 rfl rfl rfl rfl ?_ | refine B3 rfl rfl rfl rfl ?_ | refine B4 rfl rfl rfl rfl ?_ | refine B5 rfl rfl rfl rfl ?_ | refine B6 rfl rfl rfl rfl ?_ | refine B7 rfl rfl rfl rfl rfl ?_ | refine B8 rfl rfl rfl rfl rfl ?_ | refine B9 rfl rfl rfl rfl rfl rfl rfl ?_ | refine BA rfl rfl rfl rfl rfl rfl rfl ?_) | (refine IsConv ?_; refine C1 rfl rfl rfl rfl rfl ?_) | (refine IsLoad ?_; first | refine L1 rfl rfl rfl rfl ?_ | refine L2 rfl rfl rfl rfl rfl ?_) | (refine IsStore ?_; refine S1 rfl rfl rfl rfl rfl rfl rfl (fun _ => ?_)) | (refine IsBox ?_; refine N1 rfl rfl rfl rfl (fun _ => ?_)) | (refine IsAlloc ?_; refine N2 rfl rfl rfl rfl (fun _ => ?_)) | (refine IsBuild ?_; refine U1 rfl rfl rfl rfl rfl rfl ?_) | refine V1 rfl rfl rfl ?_) | (refine IsAt ?_; first | (with_reducible first | refine T1 ?_ | refine T2 ?_ | refine T3 ?_ | refine T4 ?_ | refine T5 ?_ | refine T6 ?_ | refine T7 ?_ | refine T8 ?_ | refine T9 ?_ | refine TA ?_ | refine TB ?_ | refine TC ?_) | ((with_reducible show At _ (PBlock _ _ (Exit.exit _)) _ _); first | refine At_block_hit ?_ | refine At_block_miss rfl ?_)) | (refine IsJ ?_; first | refine J_seq ?_ | refine J_region ?_ | refine J_skip ?_ | refine J_ret ?_ | refine J_exit ?_ | (refine IsCond ?_; first | refine J_cond_t rfl ?_ | refine J_cond_f rfl ?_ | refine K1 rfl ?_ | refine K2 rfl ?_ | refine K3 rfl ?_ | refine K4 rfl ?_ | refine J_cb rfl (fun _ => ?_) (fun _ => ?_) | refine J_nb rfl (fun _ => ?_) (fun _ => ?_))))
  · rename_i hlt
    refine J_block ?_
    obtain ⟨z, hz⟩ : ∃ z, zs[i]? = some z := ⟨zs[i]'(by omega), List.getElem?_eq_getElem _⟩
    obtain ⟨hz0, hz1⟩ := hZb z (List.mem_of_getElem? hz)
    obtain ⟨k, hk⟩ := Int.eq_ofNat_of_zero_le (show 0 ≤ z % 4 by omega)
    have hk4 : k < 4 := by omega
    have hcl := hok.i.cl
    obtain ⟨x, hx⟩ : ∃ x, s.cs[k]? = some x := ⟨s.cs[k]'(by omega), List.getElem?_eq_getElem _⟩
    have hstep : ∀ s : DhG, DhOk s i → 1 ≤ s.next ∧ s.next ≤ 1000 → _ := fun s h hn => dhStep p pc bw b7 b8 b9 b10 b11 bm k i s h hk4 (by omega) hn
    repeat' (first | (refine IsO ?_; first | refine JO_nil ?_ | (refine IsG ?_; first | refine G1 rfl rfl ?_ | refine G2 rfl ?_) | (refine IsMove ?_; first | refine M1 rfl rfl rfl ?_ | refine M2 rfl rfl rfl ?_ | refine M3 rfl rfl rfl ?_ | refine M4 rfl rfl rfl ?_ | refine M5 rfl rfl rfl (fun _ => ?_) (fun _ => ?_) | refine M6 rfl rfl rfl (fun _ => ?_) (fun _ => ?_)) | (refine IsBin ?_; first | refine B1 rfl rfl rfl rfl ?_ | refine B2 rfl rfl rfl rfl ?_ | refine B3 rfl rfl rfl rfl ?_ | refine B4 rfl rfl rfl rfl ?_ | refine B5 rfl rfl rfl rfl ?_ | refine B6 rfl rfl rfl rfl ?_ | refine B7 rfl rfl rfl rfl rfl ?_ | refine B8 rfl rfl rfl rfl rfl ?_ | refine B9 rfl rfl rfl rfl rfl rfl rfl ?_ | refine BA rfl rfl rfl rfl rfl rfl rfl ?_) | (refine IsConv ?_; refine C1 rfl rfl rfl rfl rfl ?_) | (refine IsLoad ?_; first | refine L1 rfl rfl rfl rfl ?_ | refine L2 rfl rfl rfl rfl rfl ?_) | (refine IsStore ?_; refine S1 rfl rfl rfl rfl rfl rfl rfl (fun _ => ?_)) | (refine IsBox ?_; refine N1 rfl rfl rfl rfl (fun _ => ?_)) | (refine IsAlloc ?_; refine N2 rfl rfl rfl rfl (fun _ => ?_)) | (refine IsBuild ?_; refine U1 rfl rfl rfl rfl rfl rfl ?_) | refine V1 rfl rfl rfl ?_) | (refine IsAt ?_; first | (with_reducible first | refine T1 ?_ | refine T2 ?_ | refine T3 ?_ | refine T4 ?_ | refine T5 ?_ | refine T6 ?_ | refine T7 ?_ | refine T8 ?_ | refine T9 ?_ | refine TA ?_ | refine TB ?_ | refine TC ?_) | ((with_reducible show At _ (PBlock _ _ (Exit.exit _)) _ _); first | refine At_block_hit ?_ | refine At_block_miss rfl ?_)) | (refine IsJ ?_; first | refine J_seq ?_ | refine J_region ?_ | refine J_block ?_ | refine J_skip ?_ | refine J_ret ?_ | refine J_exit ?_ | (refine IsCond ?_; first | refine J_cond_t rfl ?_ | refine J_cond_f rfl ?_ | refine K1 rfl ?_ | refine K2 rfl ?_ | refine K3 rfl ?_ | refine K4 rfl ?_ | refine J_cb rfl (fun _ => ?_) (fun _ => ?_) | refine J_nb rfl (fun _ => ?_) (fun _ => ?_))))
    refine JO_fact _ (fun w hs => hZ.some (by omega) hs (by repeat (first | exact .head _ | refine .tail _ ?_))) ?_
    rintro ⟨b, o, rfl⟩
    refine JO_val (OV_idx (off := o + i) rfl rfl rfl rfl (by omega) (by omega) (by simp)) rfl rfl ?_
    refine JO_q (OQ_read (v := .int .u8 z) hZ (by repeat (first | exact .head _ | refine .tail _ ?_)) rfl rfl (by omega) (by simp [u8D, hz])) rfl rfl ?_
    repeat' (first | (refine IsO ?_; first | refine JO_nil ?_ | (refine IsG ?_; first | refine G1 rfl rfl ?_ | refine G2 rfl ?_) | (refine IsMove ?_; first | refine M1 rfl rfl rfl ?_ | refine M2 rfl rfl rfl ?_ | refine M3 rfl rfl rfl ?_ | refine M4 rfl rfl rfl ?_ | refine M5 rfl rfl rfl (fun _ => ?_) (fun _ => ?_) | refine M6 rfl rfl rfl (fun _ => ?_) (fun _ => ?_)) | (refine IsBin ?_; first | refine B1 rfl rfl rfl rfl ?_ | refine B2 rfl rfl rfl rfl ?_ | refine B3 rfl rfl rfl rfl ?_ | refine B4 rfl rfl rfl rfl ?_ | refine B5 rfl rfl rfl rfl ?_ | refine B6 rfl rfl rfl rfl ?_ | refine B7 rfl rfl rfl rfl rfl ?_ | refine B8 rfl rfl rfl rfl rfl ?_ | refine B9 rfl rfl rfl rfl rfl rfl rfl ?_ | refine BA rfl rfl rfl rfl rfl rfl rfl ?_) | (refine IsConv ?_; refine C1 rfl rfl rfl rfl rfl ?_) | (refine IsLoad ?_; first | refine L1 rfl rfl rfl rfl ?_ | refine L2 rfl rfl rfl rfl rfl ?_) | (refine IsStore ?_; refine S1 rfl rfl rfl rfl rfl rfl rfl (fun _ => ?_)) | (refine IsBox ?_; refine N1 rfl rfl rfl rfl (fun _ => ?_)) | (refine IsAlloc ?_; refine N2 rfl rfl rfl rfl (fun _ => ?_)) | (refine IsBuild ?_; refine U1 rfl rfl rfl rfl rfl rfl ?_) | refine V1 rfl rfl rfl ?_) | (refine IsAt ?_; first | (with_reducible first | refine T1 ?_ | refine T2 ?_ | refine T3 ?_ | refine T4 ?_ | refine T5 ?_ | refine T6 ?_ | refine T7 ?_ | refine T8 ?_ | refine T9 ?_ | refine TA ?_ | refine TB ?_ | refine TC ?_) | ((with_reducible show At _ (PBlock _ _ (Exit.exit _)) _ _); first | refine At_block_hit ?_ | refine At_block_miss rfl ?_)) | (refine IsJ ?_; first | refine J_seq ?_ | refine J_region ?_ | refine J_block ?_ | refine J_skip ?_ | refine J_ret ?_ | refine J_exit ?_ | (refine IsCond ?_; first | refine J_cond_t rfl ?_ | refine J_cond_f rfl ?_ | refine K1 rfl ?_ | refine K2 rfl ?_ | refine K3 rfl ?_ | refine K4 rfl ?_ | refine J_cb rfl (fun _ => ?_) (fun _ => ?_) | refine J_nb rfl (fun _ => ?_) (fun _ => ?_))))
    rw [hk]
    repeat' (first | (refine IsO ?_; first | refine JO_nil ?_ | (refine IsG ?_; first | refine G1 rfl rfl ?_ | refine G2 rfl ?_) | (refine IsMove ?_; first | refine M1 rfl rfl rfl ?_ | refine M2 rfl rfl rfl ?_ | refine M3 rfl rfl rfl ?_ | refine M4 rfl rfl rfl ?_ | refine M5 rfl rfl rfl (fun _ => ?_) (fun _ => ?_) | refine M6 rfl rfl rfl (fun _ => ?_) (fun _ => ?_)) | (refine IsBin ?_; first | refine B1 rfl rfl rfl rfl ?_ | refine B2 rfl rfl rfl rfl ?_ | refine B3 rfl rfl rfl rfl ?_ | refine B4 rfl rfl rfl rfl ?_ | refine B5 rfl rfl rfl rfl ?_ | refine B6 rfl rfl rfl rfl ?_ | refine B7 rfl rfl rfl rfl rfl ?_ | refine B8 rfl rfl rfl rfl rfl ?_ | refine B9 rfl rfl rfl rfl rfl rfl rfl ?_ | refine BA rfl rfl rfl rfl rfl rfl rfl ?_) | (refine IsConv ?_; refine C1 rfl rfl rfl rfl rfl ?_) | (refine IsLoad ?_; first | refine L1 rfl rfl rfl rfl ?_ | refine L2 rfl rfl rfl rfl rfl ?_) | (refine IsStore ?_; refine S1 rfl rfl rfl rfl rfl rfl rfl (fun _ => ?_)) | (refine IsBox ?_; refine N1 rfl rfl rfl rfl (fun _ => ?_)) | (refine IsAlloc ?_; refine N2 rfl rfl rfl rfl (fun _ => ?_)) | (refine IsBuild ?_; refine U1 rfl rfl rfl rfl rfl rfl ?_) | refine V1 rfl rfl rfl ?_) | (refine IsAt ?_; first | (with_reducible first | refine T1 ?_ | refine T2 ?_ | refine T3 ?_ | refine T4 ?_ | refine T5 ?_ | refine T6 ?_ | refine T7 ?_ | refine T8 ?_ | refine T9 ?_ | refine TA ?_ | refine TB ?_ | refine TC ?_) | ((with_reducible show At _ (PBlock _ _ (Exit.exit _)) _ _); first | refine At_block_hit ?_ | refine At_block_miss rfl ?_)) | (refine IsJ ?_; first | refine J_seq ?_ | refine J_region ?_ | refine J_block ?_ | refine J_skip ?_ | refine J_ret ?_ | refine J_exit ?_ | (refine IsCond ?_; first | refine J_cond_t rfl ?_ | refine J_cond_f rfl ?_ | refine K1 rfl ?_ | refine K2 rfl ?_ | refine K3 rfl ?_ | refine K4 rfl ?_ | refine J_cb rfl (fun _ => ?_) (fun _ => ?_) | refine J_nb rfl (fun _ => ?_) (fun _ => ?_))))
    refine JO_val (OV_idxA (off := k) rfl rfl rfl rfl (by omega) (by omega) (by simp)) rfl rfl ?_
    refine JO_q (OQ_load (v := slotVD x) rfl rfl (by repeat (first | exact .head _ | refine .tail _ ?_)) (by rw [List.getElem?_map, hx]; rfl)) rfl rfl ?_
    cases ho : x.on with
    | true =>
      rw [show slotVD x = ptr x.c 0 by unfold slotVD; rw [if_pos ho]]
      repeat' (first | (refine IsO ?_; first | refine JO_nil ?_ | (refine IsG ?_; first | refine G1 rfl rfl ?_ | refine G2 rfl ?_) | (refine IsMove ?_; first | refine M1 rfl rfl rfl ?_ | refine M2 rfl rfl rfl ?_ | refine M3 rfl rfl rfl ?_ | refine M4 rfl rfl rfl ?_ | refine M5 rfl rfl rfl (fun _ => ?_) (fun _ => ?_) | refine M6 rfl rfl rfl (fun _ => ?_) (fun _ => ?_)) | (refine IsBin ?_; first | refine B1 rfl rfl rfl rfl ?_ | refine B2 rfl rfl rfl rfl ?_ | refine B3 rfl rfl rfl rfl ?_ | refine B4 rfl rfl rfl rfl ?_ | refine B5 rfl rfl rfl rfl ?_ | refine B6 rfl rfl rfl rfl ?_ | refine B7 rfl rfl rfl rfl rfl ?_ | refine B8 rfl rfl rfl rfl rfl ?_ | refine B9 rfl rfl rfl rfl rfl rfl rfl ?_ | refine BA rfl rfl rfl rfl rfl rfl rfl ?_) | (refine IsConv ?_; refine C1 rfl rfl rfl rfl rfl ?_) | (refine IsLoad ?_; first | refine L1 rfl rfl rfl rfl ?_ | refine L2 rfl rfl rfl rfl rfl ?_) | (refine IsStore ?_; refine S1 rfl rfl rfl rfl rfl rfl rfl (fun _ => ?_)) | (refine IsBox ?_; refine N1 rfl rfl rfl rfl (fun _ => ?_)) | (refine IsAlloc ?_; refine N2 rfl rfl rfl rfl (fun _ => ?_)) | (refine IsBuild ?_; refine U1 rfl rfl rfl rfl rfl rfl ?_) | refine V1 rfl rfl rfl ?_) | (refine IsAt ?_; first | (with_reducible first | refine T1 ?_ | refine T2 ?_ | refine T3 ?_ | refine T4 ?_ | refine T5 ?_ | refine T6 ?_ | refine T7 ?_ | refine T8 ?_ | refine T9 ?_ | refine TA ?_ | refine TB ?_ | refine TC ?_) | ((with_reducible show At _ (PBlock _ _ (Exit.exit _)) _ _); first | refine At_block_hit ?_ | refine At_block_miss rfl ?_)) | (refine IsJ ?_; first | refine J_seq ?_ | refine J_region ?_ | refine J_block ?_ | refine J_skip ?_ | refine J_ret ?_ | refine J_exit ?_ | (refine IsCond ?_; first | refine J_cond_t rfl ?_ | refine J_cond_f rfl ?_ | refine K1 rfl ?_ | refine K2 rfl ?_ | refine K3 rfl ?_ | refine K4 rfl ?_ | refine J_cb rfl (fun _ => ?_) (fun _ => ?_) | refine J_nb rfl (fun _ => ?_) (fun _ => ?_))))
      refine JO_l (OL_call [0, 0, 0, 0, 0, 0, 0, 0, 0, 0, 0] rfl rfl rfl (hstep s hok ⟨hn1, by omega⟩) rfl) rfl rfl ?_
      rintro _ _ ⟨_, ⟨s', hok', hnx, _, rfl, rfl⟩, rfl⟩
      repeat' (first | (refine IsO ?_; first | refine JO_nil ?_ | (refine IsG ?_; first | refine G1 rfl rfl ?_ | refine G2 rfl ?_) | (refine IsMove ?_; first | refine M1 rfl rfl rfl ?_ | refine M2 rfl rfl rfl ?_ | refine M3 rfl rfl rfl ?_ | refine M4 rfl rfl rfl ?_ | refine M5 rfl rfl rfl (fun _ => ?_) (fun _ => ?_) | refine M6 rfl rfl rfl (fun _ => ?_) (fun _ => ?_)) | (refine IsBin ?_; first | refine B1 rfl rfl rfl rfl ?_ | refine B2 rfl rfl rfl rfl ?_ | refine B3 rfl rfl rfl rfl ?_ | refine B4 rfl rfl rfl rfl ?_ | refine B5 rfl rfl rfl rfl ?_ | refine B6 rfl rfl rfl rfl ?_ | refine B7 rfl rfl rfl rfl rfl ?_ | refine B8 rfl rfl rfl rfl rfl ?_ | refine B9 rfl rfl rfl rfl rfl rfl rfl ?_ | refine BA rfl rfl rfl rfl rfl rfl rfl ?_) | (refine IsConv ?_; refine C1 rfl rfl rfl rfl rfl ?_) | (refine IsLoad ?_; first | refine L1 rfl rfl rfl rfl ?_ | refine L2 rfl rfl rfl rfl rfl ?_) | (refine IsStore ?_; refine S1 rfl rfl rfl rfl rfl rfl rfl (fun _ => ?_)) | (refine IsBox ?_; refine N1 rfl rfl rfl rfl (fun _ => ?_)) | (refine IsAlloc ?_; refine N2 rfl rfl rfl rfl (fun _ => ?_)) | (refine IsBuild ?_; refine U1 rfl rfl rfl rfl rfl rfl ?_) | refine V1 rfl rfl rfl ?_) | (refine IsAt ?_; first | (with_reducible first | refine T1 ?_ | refine T2 ?_ | refine T3 ?_ | refine T4 ?_ | refine T5 ?_ | refine T6 ?_ | refine T7 ?_ | refine T8 ?_ | refine T9 ?_ | refine TA ?_ | refine TB ?_ | refine TC ?_) | ((with_reducible show At _ (PBlock _ _ (Exit.exit _)) _ _); first | refine At_block_hit ?_ | refine At_block_miss rfl ?_)) | (refine IsJ ?_; first | refine J_seq ?_ | refine J_region ?_ | refine J_block ?_ | refine J_skip ?_ | refine J_ret ?_ | refine J_exit ?_ | (refine IsCond ?_; first | refine J_cond_t rfl ?_ | refine J_cond_f rfl ?_ | refine K1 rfl ?_ | refine K2 rfl ?_ | refine K3 rfl ?_ | refine K4 rfl ?_ | refine J_cb rfl (fun _ => ?_) (fun _ => ?_) | refine J_nb rfl (fun _ => ?_) (fun _ => ?_))))
      exact At_round (i + 1, at_, s') (by show zs.length - (i + 1) < zs.length - i; omega) ⟨by show i + 1 ≤ zs.length; omega, hat, hok', by dsimp only; omega, by dsimp only; omega⟩ (by repeat (first | exact True.intro | refine And.intro rfl ?_)) (fun H hl => hl)
    | false =>
      rw [show slotVD x = .pointer none by unfold slotVD; rw [if_neg (by rw [ho]; decide)]]
      by_cases hk0 : k = 0
      · subst hk0
        repeat' (first | (refine IsO ?_; first | refine JO_nil ?_ | (refine IsG ?_; first | refine G1 rfl rfl ?_ | refine G2 rfl ?_) | (refine IsMove ?_; first | refine M1 rfl rfl rfl ?_ | refine M2 rfl rfl rfl ?_ | refine M3 rfl rfl rfl ?_ | refine M4 rfl rfl rfl ?_ | refine M5 rfl rfl rfl (fun _ => ?_) (fun _ => ?_) | refine M6 rfl rfl rfl (fun _ => ?_) (fun _ => ?_)) | (refine IsBin ?_; first | refine B1 rfl rfl rfl rfl ?_ | refine B2 rfl rfl rfl rfl ?_ | refine B3 rfl rfl rfl rfl ?_ | refine B4 rfl rfl rfl rfl ?_ | refine B5 rfl rfl rfl rfl ?_ | refine B6 rfl rfl rfl rfl ?_ | refine B7 rfl rfl rfl rfl rfl ?_ | refine B8 rfl rfl rfl rfl rfl ?_ | refine B9 rfl rfl rfl rfl rfl rfl rfl ?_ | refine BA rfl rfl rfl rfl rfl rfl rfl ?_) | (refine IsConv ?_; refine C1 rfl rfl rfl rfl rfl ?_) | (refine IsLoad ?_; first | refine L1 rfl rfl rfl rfl ?_ | refine L2 rfl rfl rfl rfl rfl ?_) | (refine IsStore ?_; refine S1 rfl rfl rfl rfl rfl rfl rfl (fun _ => ?_)) | (refine IsBox ?_; refine N1 rfl rfl rfl rfl (fun _ => ?_)) | (refine IsAlloc ?_; refine N2 rfl rfl rfl rfl (fun _ => ?_)) | (refine IsBuild ?_; refine U1 rfl rfl rfl rfl rfl rfl ?_) | refine V1 rfl rfl rfl ?_) | (refine IsAt ?_; first | (with_reducible first | refine T1 ?_ | refine T2 ?_ | refine T3 ?_ | refine T4 ?_ | refine T5 ?_ | refine T6 ?_ | refine T7 ?_ | refine T8 ?_ | refine T9 ?_ | refine TA ?_ | refine TB ?_ | refine TC ?_) | ((with_reducible show At _ (PBlock _ _ (Exit.exit _)) _ _); first | refine At_block_hit ?_ | refine At_block_miss rfl ?_)) | (refine IsJ ?_; first | refine J_seq ?_ | refine J_region ?_ | refine J_block ?_ | refine J_skip ?_ | refine J_ret ?_ | refine J_exit ?_ | (refine IsCond ?_; first | refine J_cond_t rfl ?_ | refine J_cond_f rfl ?_ | refine K1 rfl ?_ | refine K2 rfl ?_ | refine K3 rfl ?_ | refine K4 rfl ?_ | refine J_cb rfl (fun _ => ?_) (fun _ => ?_) | refine J_nb rfl (fun _ => ?_) (fun _ => ?_))))
        · exact At_round (i + 1, at_, s) (by show zs.length - (i + 1) < zs.length - i; omega) ⟨by show i + 1 ≤ zs.length; omega, hat, ⟨hok.i.mono (Nat.le_succ _), hok.f, by have := hok.lg; show s.lg.length ≤ i + 1; omega, by have := hok.nn; show s.nn ≤ i + 1; omega⟩, hn1, hn2⟩ (by repeat (first | exact True.intro | refine And.intro rfl ?_)) (fun H hl => hl)
        rename_i hatl
        have hatl2 : at_ < acs.length := by omega
        obtain ⟨y, hy⟩ : ∃ y, acs[at_]? = some y := ⟨acs[at_]'hatl2, List.getElem?_eq_getElem _⟩
        obtain ⟨hy0, hy1⟩ := hAb y (List.mem_of_getElem? hy)
        refine JO_fact _ (fun w hs => hA.some (by omega) hs (by repeat (first | exact .head _ | refine .tail _ ?_))) ?_
        rintro ⟨b2, o2, rfl⟩
        refine JO_val (OV_idx (off := o2 + at_) rfl rfl rfl rfl (by omega) (by omega) (by simp)) rfl rfl ?_
        refine JO_q (OQ_read (v := .int .u8 y) hA (by repeat (first | exact .head _ | refine .tail _ ?_)) rfl rfl (by omega) (by simp [u8D, hy])) rfl rfl ?_
        repeat' (first | (refine IsO ?_; first | refine JO_nil ?_ | (refine IsG ?_; first | refine G1 rfl rfl ?_ | refine G2 rfl ?_) | (refine IsMove ?_; first | refine M1 rfl rfl rfl ?_ | refine M2 rfl rfl rfl ?_ | refine M3 rfl rfl rfl ?_ | refine M4 rfl rfl rfl ?_ | refine M5 rfl rfl rfl (fun _ => ?_) (fun _ => ?_) | refine M6 rfl rfl rfl (fun _ => ?_) (fun _ => ?_)) | (refine IsBin ?_; first | refine B1 rfl rfl rfl rfl ?_ | refine B2 rfl rfl rfl rfl ?_ | refine B3 rfl rfl rfl rfl ?_ | refine B4 rfl rfl rfl rfl ?_ | refine B5 rfl rfl rfl rfl ?_ | refine B6 rfl rfl rfl rfl ?_ | refine B7 rfl rfl rfl rfl rfl ?_ | refine B8 rfl rfl rfl rfl rfl ?_ | refine B9 rfl rfl rfl rfl rfl rfl rfl ?_ | refine BA rfl rfl rfl rfl rfl rfl rfl ?_) | (refine IsConv ?_; refine C1 rfl rfl rfl rfl rfl ?_) | (refine IsLoad ?_; first | refine L1 rfl rfl rfl rfl ?_ | refine L2 rfl rfl rfl rfl rfl ?_) | (refine IsStore ?_; refine S1 rfl rfl rfl rfl rfl rfl rfl (fun _ => ?_)) | (refine IsBox ?_; refine N1 rfl rfl rfl rfl (fun _ => ?_)) | (refine IsAlloc ?_; refine N2 rfl rfl rfl rfl (fun _ => ?_)) | (refine IsBuild ?_; refine U1 rfl rfl rfl rfl rfl rfl ?_) | refine V1 rfl rfl rfl ?_) | (refine IsAt ?_; first | (with_reducible first | refine T1 ?_ | refine T2 ?_ | refine T3 ?_ | refine T4 ?_ | refine T5 ?_ | refine T6 ?_ | refine T7 ?_ | refine T8 ?_ | refine T9 ?_ | refine TA ?_ | refine TB ?_ | refine TC ?_) | ((with_reducible show At _ (PBlock _ _ (Exit.exit _)) _ _); first | refine At_block_hit ?_ | refine At_block_miss rfl ?_)) | (refine IsJ ?_; first | refine J_seq ?_ | refine J_region ?_ | refine J_block ?_ | refine J_skip ?_ | refine J_ret ?_ | refine J_exit ?_ | (refine IsCond ?_; first | refine J_cond_t rfl ?_ | refine J_cond_f rfl ?_ | refine K1 rfl ?_ | refine K2 rfl ?_ | refine K3 rfl ?_ | refine K4 rfl ?_ | refine J_cb rfl (fun _ => ?_) (fun _ => ?_) | refine J_nb rfl (fun _ => ?_) (fun _ => ?_))))
        · refine JO_l (OL_call [] rfl rfl rfl (Push_spec s.next) rfl) rfl rfl ?_; rintro _ _ ⟨_, ⟨c, rfl, rfl⟩, rfl⟩
          repeat' (first | (refine IsO ?_; first | refine JO_nil ?_ | (refine IsG ?_; first | refine G1 rfl rfl ?_ | refine G2 rfl ?_) | (refine IsMove ?_; first | refine M1 rfl rfl rfl ?_ | refine M2 rfl rfl rfl ?_ | refine M3 rfl rfl rfl ?_ | refine M4 rfl rfl rfl ?_ | refine M5 rfl rfl rfl (fun _ => ?_) (fun _ => ?_) | refine M6 rfl rfl rfl (fun _ => ?_) (fun _ => ?_)) | (refine IsBin ?_; first | refine B1 rfl rfl rfl rfl ?_ | refine B2 rfl rfl rfl rfl ?_ | refine B3 rfl rfl rfl rfl ?_ | refine B4 rfl rfl rfl rfl ?_ | refine B5 rfl rfl rfl rfl ?_ | refine B6 rfl rfl rfl rfl ?_ | refine B7 rfl rfl rfl rfl rfl ?_ | refine B8 rfl rfl rfl rfl rfl ?_ | refine B9 rfl rfl rfl rfl rfl rfl rfl ?_ | refine BA rfl rfl rfl rfl rfl rfl rfl ?_) | (refine IsConv ?_; refine C1 rfl rfl rfl rfl rfl ?_) | (refine IsLoad ?_; first | refine L1 rfl rfl rfl rfl ?_ | refine L2 rfl rfl rfl rfl rfl ?_) | (refine IsStore ?_; refine S1 rfl rfl rfl rfl rfl rfl rfl (fun _ => ?_)) | (refine IsBox ?_; refine N1 rfl rfl rfl rfl (fun _ => ?_)) | (refine IsAlloc ?_; refine N2 rfl rfl rfl rfl (fun _ => ?_)) | (refine IsBuild ?_; refine U1 rfl rfl rfl rfl rfl rfl ?_) | refine V1 rfl rfl rfl ?_) | (refine IsAt ?_; first | (with_reducible first | refine T1 ?_ | refine T2 ?_ | refine T3 ?_ | refine T4 ?_ | refine T5 ?_ | refine T6 ?_ | refine T7 ?_ | refine T8 ?_ | refine T9 ?_ | refine TA ?_ | refine TB ?_ | refine TC ?_) | ((with_reducible show At _ (PBlock _ _ (Exit.exit _)) _ _); first | refine At_block_hit ?_ | refine At_block_miss rfl ?_)) | (refine IsJ ?_; first | refine J_seq ?_ | refine J_region ?_ | refine J_block ?_ | refine J_skip ?_ | refine J_ret ?_ | refine J_exit ?_ | (refine IsCond ?_; first | refine J_cond_t rfl ?_ | refine J_cond_f rfl ?_ | refine K1 rfl ?_ | refine K2 rfl ?_ | refine K3 rfl ?_ | refine K4 rfl ?_ | refine J_cb rfl (fun _ => ?_) (fun _ => ?_) | refine J_nb rfl (fun _ => ?_) (fun _ => ?_))))
          refine JO_val (OV_idxA (off := 0) rfl rfl rfl rfl (by omega) (by omega) (by simp)) rfl rfl ?_
          refine JO_l0 (OL_store (i := 3) rfl rfl rfl rfl rfl rfl rfl (putL_slotVD ⟨0, true, true, c, 0, 0, 0, s.next⟩ (ptr c 0) (by omega) rfl)) rfl ?_
          rintro _ _ rfl
          repeat' (first | (refine IsO ?_; first | refine JO_nil ?_ | (refine IsG ?_; first | refine G1 rfl rfl ?_ | refine G2 rfl ?_) | (refine IsMove ?_; first | refine M1 rfl rfl rfl ?_ | refine M2 rfl rfl rfl ?_ | refine M3 rfl rfl rfl ?_ | refine M4 rfl rfl rfl ?_ | refine M5 rfl rfl rfl (fun _ => ?_) (fun _ => ?_) | refine M6 rfl rfl rfl (fun _ => ?_) (fun _ => ?_)) | (refine IsBin ?_; first | refine B1 rfl rfl rfl rfl ?_ | refine B2 rfl rfl rfl rfl ?_ | refine B3 rfl rfl rfl rfl ?_ | refine B4 rfl rfl rfl rfl ?_ | refine B5 rfl rfl rfl rfl ?_ | refine B6 rfl rfl rfl rfl ?_ | refine B7 rfl rfl rfl rfl rfl ?_ | refine B8 rfl rfl rfl rfl rfl ?_ | refine B9 rfl rfl rfl rfl rfl rfl rfl ?_ | refine BA rfl rfl rfl rfl rfl rfl rfl ?_) | (refine IsConv ?_; refine C1 rfl rfl rfl rfl rfl ?_) | (refine IsLoad ?_; first | refine L1 rfl rfl rfl rfl ?_ | refine L2 rfl rfl rfl rfl rfl ?_) | (refine IsStore ?_; refine S1 rfl rfl rfl rfl rfl rfl rfl (fun _ => ?_)) | (refine IsBox ?_; refine N1 rfl rfl rfl rfl (fun _ => ?_)) | (refine IsAlloc ?_; refine N2 rfl rfl rfl rfl (fun _ => ?_)) | (refine IsBuild ?_; refine U1 rfl rfl rfl rfl rfl rfl ?_) | refine V1 rfl rfl rfl ?_) | (refine IsAt ?_; first | (with_reducible first | refine T1 ?_ | refine T2 ?_ | refine T3 ?_ | refine T4 ?_ | refine T5 ?_ | refine T6 ?_ | refine T7 ?_ | refine T8 ?_ | refine T9 ?_ | refine TA ?_ | refine TB ?_ | refine TC ?_) | ((with_reducible show At _ (PBlock _ _ (Exit.exit _)) _ _); first | refine At_block_hit ?_ | refine At_block_miss rfl ?_)) | (refine IsJ ?_; first | refine J_seq ?_ | refine J_region ?_ | refine J_block ?_ | refine J_skip ?_ | refine J_ret ?_ | refine J_exit ?_ | (refine IsCond ?_; first | refine J_cond_t rfl ?_ | refine J_cond_f rfl ?_ | refine K1 rfl ?_ | refine K2 rfl ?_ | refine K3 rfl ?_ | refine K4 rfl ?_ | refine J_cb rfl (fun _ => ?_) (fun _ => ?_) | refine J_nb rfl (fun _ => ?_) (fun _ => ?_))))
          have hsl : slotHD p ⟨0, true, true, c, 0, 0, 0, s.next⟩ = dcL c p 0 (nx 51) 0 0 s.next 0 := by
            unfold slotHD
            rw [if_pos rfl]
            rfl
          obtain ⟨s1, hs1⟩ : ∃ s1 : DhG, s1 = ⟨s.cs.set 0 ⟨0, true, true, c, 0, 0, 0, s.next⟩, s.next, s.next + 1, s.f, s.ws, s.P, s.T, s.a, s.cap, s.lg, s.nn⟩ := ⟨_, rfl⟩
          have hok1 : DhOk s1 i := by
            rw [hs1]
            exact ⟨hok.i.pushB hx ho hn1 c, hok.f, hok.lg, hok.nn⟩
          have hnx1 : s1.next = s.next + 1 := by rw [hs1]
          refine JO_hp (l' := dhM p pc bw b7 b8 b9 b10 b11 bm s1 ++ [Low W0]) (fun H hl => ?_) ?_
          · rw [hs1]
            refine bigM.put hx ?_
            rw [hsl]
            exact hl.pick (is := [2, 3, 1, 1, 1, 0, 0, 0, 0, 0, 0, 0, 0]) rfl
          refine JO_l (OL_call [0, 0, 0, 0, 0, 0, 0, 0, 0, 0, 0] rfl rfl rfl (hstep s1 hok1 ⟨by omega, by omega⟩) rfl) rfl rfl ?_
          rintro _ _ ⟨_, ⟨s', hok', hnx, _, rfl, rfl⟩, rfl⟩
          repeat' (first | (refine IsO ?_; first | refine JO_nil ?_ | (refine IsG ?_; first | refine G1 rfl rfl ?_ | refine G2 rfl ?_) | (refine IsMove ?_; first | refine M1 rfl rfl rfl ?_ | refine M2 rfl rfl rfl ?_ | refine M3 rfl rfl rfl ?_ | refine M4 rfl rfl rfl ?_ | refine M5 rfl rfl rfl (fun _ => ?_) (fun _ => ?_) | refine M6 rfl rfl rfl (fun _ => ?_) (fun _ => ?_)) | (refine IsBin ?_; first | refine B1 rfl rfl rfl rfl ?_ | refine B2 rfl rfl rfl rfl ?_ | refine B3 rfl rfl rfl rfl ?_ | refine B4 rfl rfl rfl rfl ?_ | refine B5 rfl rfl rfl rfl ?_ | refine B6 rfl rfl rfl rfl ?_ | refine B7 rfl rfl rfl rfl rfl ?_ | refine B8 rfl rfl rfl rfl rfl ?_ | refine B9 rfl rfl rfl rfl rfl rfl rfl ?_ | refine BA rfl rfl rfl rfl rfl rfl rfl ?_) | (refine IsConv ?_; refine C1 rfl rfl rfl rfl rfl ?_) | (refine IsLoad ?_; first | refine L1 rfl rfl rfl rfl ?_ | refine L2 rfl rfl rfl rfl rfl ?_) | (refine IsStore ?_; refine S1 rfl rfl rfl rfl rfl rfl rfl (fun _ => ?_)) | (refine IsBox ?_; refine N1 rfl rfl rfl rfl (fun _ => ?_)) | (refine IsAlloc ?_; refine N2 rfl rfl rfl rfl (fun _ => ?_)) | (refine IsBuild ?_; refine U1 rfl rfl rfl rfl rfl rfl ?_) | refine V1 rfl rfl rfl ?_) | (refine IsAt ?_; first | (with_reducible first | refine T1 ?_ | refine T2 ?_ | refine T3 ?_ | refine T4 ?_ | refine T5 ?_ | refine T6 ?_ | refine T7 ?_ | refine T8 ?_ | refine T9 ?_ | refine TA ?_ | refine TB ?_ | refine TC ?_) | ((with_reducible show At _ (PBlock _ _ (Exit.exit _)) _ _); first | refine At_block_hit ?_ | refine At_block_miss rfl ?_)) | (refine IsJ ?_; first | refine J_seq ?_ | refine J_region ?_ | refine J_block ?_ | refine J_skip ?_ | refine J_ret ?_ | refine J_exit ?_ | (refine IsCond ?_; first | refine J_cond_t rfl ?_ | refine J_cond_f rfl ?_ | refine K1 rfl ?_ | refine K2 rfl ?_ | refine K3 rfl ?_ | refine K4 rfl ?_ | refine J_cb rfl (fun _ => ?_) (fun _ => ?_) | refine J_nb rfl (fun _ => ?_) (fun _ => ?_))))
          exact At_round (i + 1, at_ + 1, s') (by show zs.length - (i + 1) < zs.length - i; omega) ⟨by show i + 1 ≤ zs.length; omega, by show at_ + 1 ≤ acs.length; omega, hok', by dsimp only; omega, by dsimp only; omega⟩ (by repeat (first | exact True.intro | refine And.intro rfl ?_)) (fun H hl => hl)
        · refine JO_l (OL_call [] rfl rfl rfl (Pop_spec) rfl) rfl rfl ?_; rintro _ _ ⟨_, ⟨c, rfl, rfl⟩, rfl⟩
          repeat' (first | (refine IsO ?_; first | refine JO_nil ?_ | (refine IsG ?_; first | refine G1 rfl rfl ?_ | refine G2 rfl ?_) | (refine IsMove ?_; first | refine M1 rfl rfl rfl ?_ | refine M2 rfl rfl rfl ?_ | refine M3 rfl rfl rfl ?_ | refine M4 rfl rfl rfl ?_ | refine M5 rfl rfl rfl (fun _ => ?_) (fun _ => ?_) | refine M6 rfl rfl rfl (fun _ => ?_) (fun _ => ?_)) | (refine IsBin ?_; first | refine B1 rfl rfl rfl rfl ?_ | refine B2 rfl rfl rfl rfl ?_ | refine B3 rfl rfl rfl rfl ?_ | refine B4 rfl rfl rfl rfl ?_ | refine B5 rfl rfl rfl rfl ?_ | refine B6 rfl rfl rfl rfl ?_ | refine B7 rfl rfl rfl rfl rfl ?_ | refine B8 rfl rfl rfl rfl rfl ?_ | refine B9 rfl rfl rfl rfl rfl rfl rfl ?_ | refine BA rfl rfl rfl rfl rfl rfl rfl ?_) | (refine IsConv ?_; refine C1 rfl rfl rfl rfl rfl ?_) | (refine IsLoad ?_; first | refine L1 rfl rfl rfl rfl ?_ | refine L2 rfl rfl rfl rfl rfl ?_) | (refine IsStore ?_; refine S1 rfl rfl rfl rfl rfl rfl rfl (fun _ => ?_)) | (refine IsBox ?_; refine N1 rfl rfl rfl rfl (fun _ => ?_)) | (refine IsAlloc ?_; refine N2 rfl rfl rfl rfl (fun _ => ?_)) | (refine IsBuild ?_; refine U1 rfl rfl rfl rfl rfl rfl ?_) | refine V1 rfl rfl rfl ?_) | (refine IsAt ?_; first | (with_reducible first | refine T1 ?_ | refine T2 ?_ | refine T3 ?_ | refine T4 ?_ | refine T5 ?_ | refine T6 ?_ | refine T7 ?_ | refine T8 ?_ | refine T9 ?_ | refine TA ?_ | refine TB ?_ | refine TC ?_) | ((with_reducible show At _ (PBlock _ _ (Exit.exit _)) _ _); first | refine At_block_hit ?_ | refine At_block_miss rfl ?_)) | (refine IsJ ?_; first | refine J_seq ?_ | refine J_region ?_ | refine J_block ?_ | refine J_skip ?_ | refine J_ret ?_ | refine J_exit ?_ | (refine IsCond ?_; first | refine J_cond_t rfl ?_ | refine J_cond_f rfl ?_ | refine K1 rfl ?_ | refine K2 rfl ?_ | refine K3 rfl ?_ | refine K4 rfl ?_ | refine J_cb rfl (fun _ => ?_) (fun _ => ?_) | refine J_nb rfl (fun _ => ?_) (fun _ => ?_))))
          refine JO_val (OV_idxA (off := 0) rfl rfl rfl rfl (by omega) (by omega) (by simp)) rfl rfl ?_
          refine JO_l0 (OL_store (i := 2) rfl rfl rfl rfl rfl rfl rfl (putL_slotVD ⟨0, true, false, c, 0, 0, 0, 0⟩ (ptr c 0) (by omega) rfl)) rfl ?_
          rintro _ _ rfl
          repeat' (first | (refine IsO ?_; first | refine JO_nil ?_ | (refine IsG ?_; first | refine G1 rfl rfl ?_ | refine G2 rfl ?_) | (refine IsMove ?_; first | refine M1 rfl rfl rfl ?_ | refine M2 rfl rfl rfl ?_ | refine M3 rfl rfl rfl ?_ | refine M4 rfl rfl rfl ?_ | refine M5 rfl rfl rfl (fun _ => ?_) (fun _ => ?_) | refine M6 rfl rfl rfl (fun _ => ?_) (fun _ => ?_)) | (refine IsBin ?_; first | refine B1 rfl rfl rfl rfl ?_ | refine B2 rfl rfl rfl rfl ?_ | refine B3 rfl rfl rfl rfl ?_ | refine B4 rfl rfl rfl rfl ?_ | refine B5 rfl rfl rfl rfl ?_ | refine B6 rfl rfl rfl rfl ?_ | refine B7 rfl rfl rfl rfl rfl ?_ | refine B8 rfl rfl rfl rfl rfl ?_ | refine B9 rfl rfl rfl rfl rfl rfl rfl ?_ | refine BA rfl rfl rfl rfl rfl rfl rfl ?_) | (refine IsConv ?_; refine C1 rfl rfl rfl rfl rfl ?_) | (refine IsLoad ?_; first | refine L1 rfl rfl rfl rfl ?_ | refine L2 rfl rfl rfl rfl rfl ?_) | (refine IsStore ?_; refine S1 rfl rfl rfl rfl rfl rfl rfl (fun _ => ?_)) | (refine IsBox ?_; refine N1 rfl rfl rfl rfl (fun _ => ?_)) | (refine IsAlloc ?_; refine N2 rfl rfl rfl rfl (fun _ => ?_)) | (refine IsBuild ?_; refine U1 rfl rfl rfl rfl rfl rfl ?_) | refine V1 rfl rfl rfl ?_) | (refine IsAt ?_; first | (with_reducible first | refine T1 ?_ | refine T2 ?_ | refine T3 ?_ | refine T4 ?_ | refine T5 ?_ | refine T6 ?_ | refine T7 ?_ | refine T8 ?_ | refine T9 ?_ | refine TA ?_ | refine TB ?_ | refine TC ?_) | ((with_reducible show At _ (PBlock _ _ (Exit.exit _)) _ _); first | refine At_block_hit ?_ | refine At_block_miss rfl ?_)) | (refine IsJ ?_; first | refine J_seq ?_ | refine J_region ?_ | refine J_block ?_ | refine J_skip ?_ | refine J_ret ?_ | refine J_exit ?_ | (refine IsCond ?_; first | refine J_cond_t rfl ?_ | refine J_cond_f rfl ?_ | refine K1 rfl ?_ | refine K2 rfl ?_ | refine K3 rfl ?_ | refine K4 rfl ?_ | refine J_cb rfl (fun _ => ?_) (fun _ => ?_) | refine J_nb rfl (fun _ => ?_) (fun _ => ?_))))
          have hsl : slotHD p ⟨0, true, false, c, 0, 0, 0, 0⟩ = dcL c p 0 (nx 53) 0 0 0 0 := by
            unfold slotHD
            rw [if_pos rfl]
            rfl
          obtain ⟨s1, hs1⟩ : ∃ s1 : DhG, s1 = ⟨s.cs.set 0 ⟨0, true, false, c, 0, 0, 0, 0⟩, s.pu, s.next, s.f, s.ws, s.P, s.T, s.a, s.cap, s.lg, s.nn⟩ := ⟨_, rfl⟩
          have hok1 : DhOk s1 i := by
            rw [hs1]
            exact ⟨hok.i.popB hx ho c, hok.f, hok.lg, hok.nn⟩
          have hnx1 : s1.next = s.next := by rw [hs1]
          refine JO_hp (l' := dhM p pc bw b7 b8 b9 b10 b11 bm s1 ++ [Low W0]) (fun H hl => ?_) ?_
          · rw [hs1]
            refine bigM.put hx ?_
            rw [hsl]
            exact hl.pick (is := [1, 1, 0, 0, 0, 0, 0, 0, 0, 0, 0, 0, 0]) rfl
          refine JO_l (OL_call [0, 0, 0, 0, 0, 0, 0, 0, 0, 0, 0] rfl rfl rfl (hstep s1 hok1 ⟨by omega, by omega⟩) rfl) rfl rfl ?_
          rintro _ _ ⟨_, ⟨s', hok', hnx, _, rfl, rfl⟩, rfl⟩
          repeat' (first | (refine IsO ?_; first | refine JO_nil ?_ | (refine IsG ?_; first | refine G1 rfl rfl ?_ | refine G2 rfl ?_) | (refine IsMove ?_; first | refine M1 rfl rfl rfl ?_ | refine M2 rfl rfl rfl ?_ | refine M3 rfl rfl rfl ?_ | refine M4 rfl rfl rfl ?_ | refine M5 rfl rfl rfl (fun _ => ?_) (fun _ => ?_) | refine M6 rfl rfl rfl (fun _ => ?_) (fun _ => ?_)) | (refine IsBin ?_; first | refine B1 rfl rfl rfl rfl ?_ | refine B2 rfl rfl rfl rfl ?_ | refine B3 rfl rfl rfl rfl ?_ | refine B4 rfl rfl rfl rfl ?_ | refine B5 rfl rfl rfl rfl ?_ | refine B6 rfl rfl rfl rfl ?_ | refine B7 rfl rfl rfl rfl rfl ?_ | refine B8 rfl rfl rfl rfl rfl ?_ | refine B9 rfl rfl rfl rfl rfl rfl rfl ?_ | refine BA rfl rfl rfl rfl rfl rfl rfl ?_) | (refine IsConv ?_; refine C1 rfl rfl rfl rfl rfl ?_) | (refine IsLoad ?_; first | refine L1 rfl rfl rfl rfl ?_ | refine L2 rfl rfl rfl rfl rfl ?_) | (refine IsStore ?_; refine S1 rfl rfl rfl rfl rfl rfl rfl (fun _ => ?_)) | (refine IsBox ?_; refine N1 rfl rfl rfl rfl (fun _ => ?_)) | (refine IsAlloc ?_; refine N2 rfl rfl rfl rfl (fun _ => ?_)) | (refine IsBuild ?_; refine U1 rfl rfl rfl rfl rfl rfl ?_) | refine V1 rfl rfl rfl ?_) | (refine IsAt ?_; first | (with_reducible first | refine T1 ?_ | refine T2 ?_ | refine T3 ?_ | refine T4 ?_ | refine T5 ?_ | refine T6 ?_ | refine T7 ?_ | refine T8 ?_ | refine T9 ?_ | refine TA ?_ | refine TB ?_ | refine TC ?_) | ((with_reducible show At _ (PBlock _ _ (Exit.exit _)) _ _); first | refine At_block_hit ?_ | refine At_block_miss rfl ?_)) | (refine IsJ ?_; first | refine J_seq ?_ | refine J_region ?_ | refine J_block ?_ | refine J_skip ?_ | refine J_ret ?_ | refine J_exit ?_ | (refine IsCond ?_; first | refine J_cond_t rfl ?_ | refine J_cond_f rfl ?_ | refine K1 rfl ?_ | refine K2 rfl ?_ | refine K3 rfl ?_ | refine K4 rfl ?_ | refine J_cb rfl (fun _ => ?_) (fun _ => ?_) | refine J_nb rfl (fun _ => ?_) (fun _ => ?_))))
          exact At_round (i + 1, at_ + 1, s') (by show zs.length - (i + 1) < zs.length - i; omega) ⟨by show i + 1 ≤ zs.length; omega, by show at_ + 1 ≤ acs.length; omega, hok', by dsimp only; omega, by dsimp only; omega⟩ (by repeat (first | exact True.intro | refine And.intro rfl ?_)) (fun H hl => hl)
      · repeat' (first | (refine IsO ?_; first | refine JO_nil ?_ | (refine IsG ?_; first | refine G1 rfl rfl ?_ | refine G2 rfl ?_) | (refine IsMove ?_; first | refine M1 rfl rfl rfl ?_ | refine M2 rfl rfl rfl ?_ | refine M3 rfl rfl rfl ?_ | refine M4 rfl rfl rfl ?_ | refine M5 rfl rfl rfl (fun _ => ?_) (fun _ => ?_) | refine M6 rfl rfl rfl (fun _ => ?_) (fun _ => ?_)) | (refine IsBin ?_; first | refine B1 rfl rfl rfl rfl ?_ | refine B2 rfl rfl rfl rfl ?_ | refine B3 rfl rfl rfl rfl ?_ | refine B4 rfl rfl rfl rfl ?_ | refine B5 rfl rfl rfl rfl ?_ | refine B6 rfl rfl rfl rfl ?_ | refine B7 rfl rfl rfl rfl rfl ?_ | refine B8 rfl rfl rfl rfl rfl ?_ | refine B9 rfl rfl rfl rfl rfl rfl rfl ?_ | refine BA rfl rfl rfl rfl rfl rfl rfl ?_) | (refine IsConv ?_; refine C1 rfl rfl rfl rfl rfl ?_) | (refine IsLoad ?_; first | refine L1 rfl rfl rfl rfl ?_ | refine L2 rfl rfl rfl rfl rfl ?_) | (refine IsStore ?_; refine S1 rfl rfl rfl rfl rfl rfl rfl (fun _ => ?_)) | (refine IsBox ?_; refine N1 rfl rfl rfl rfl (fun _ => ?_)) | (refine IsAlloc ?_; refine N2 rfl rfl rfl rfl (fun _ => ?_)) | (refine IsBuild ?_; refine U1 rfl rfl rfl rfl rfl rfl ?_) | refine V1 rfl rfl rfl ?_) | (refine IsAt ?_; first | (with_reducible first | refine T1 ?_ | refine T2 ?_ | refine T3 ?_ | refine T4 ?_ | refine T5 ?_ | refine T6 ?_ | refine T7 ?_ | refine T8 ?_ | refine T9 ?_ | refine TA ?_ | refine TB ?_ | refine TC ?_) | ((with_reducible show At _ (PBlock _ _ (Exit.exit _)) _ _); first | refine At_block_hit ?_ | refine At_block_miss rfl ?_)) | (refine IsJ ?_; first | refine J_seq ?_ | refine J_region ?_ | refine J_block ?_ | refine J_skip ?_ | refine J_ret ?_ | refine J_exit ?_ | (refine IsCond ?_; first | refine J_cond_t rfl ?_ | refine J_cond_f rfl ?_ | refine K1 rfl ?_ | refine K2 rfl ?_ | refine K3 rfl ?_ | refine K4 rfl ?_ | refine J_cb rfl (fun _ => ?_) (fun _ => ?_) | refine J_nb rfl (fun _ => ?_) (fun _ => ?_))))
        · exact At_round (i + 1, at_, s) (by show zs.length - (i + 1) < zs.length - i; omega) ⟨by show i + 1 ≤ zs.length; omega, hat, ⟨hok.i.mono (Nat.le_succ _), hok.f, by have := hok.lg; show s.lg.length ≤ i + 1; omega, by have := hok.nn; show s.nn ≤ i + 1; omega⟩, hn1, hn2⟩ (by repeat (first | exact True.intro | refine And.intro rfl ?_)) (fun H hl => hl)
        rename_i hatl
        have hatl2 : at_ < acs.length := by omega
        obtain ⟨y, hy⟩ : ∃ y, acs[at_]? = some y := ⟨acs[at_]'hatl2, List.getElem?_eq_getElem _⟩
        obtain ⟨hy0, hy1⟩ := hAb y (List.mem_of_getElem? hy)
        refine JO_fact _ (fun w hs => hA.some (by omega) hs (by repeat (first | exact .head _ | refine .tail _ ?_))) ?_
        rintro ⟨b2, o2, rfl⟩
        refine JO_val (OV_idx (off := o2 + at_) rfl rfl rfl rfl (by omega) (by omega) (by simp)) rfl rfl ?_
        refine JO_q (OQ_read (v := .int .u8 y) hA (by repeat (first | exact .head _ | refine .tail _ ?_)) rfl rfl (by omega) (by simp [u8D, hy])) rfl rfl ?_
        repeat' (first | (refine IsO ?_; first | refine JO_nil ?_ | (refine IsG ?_; first | refine G1 rfl rfl ?_ | refine G2 rfl ?_) | (refine IsMove ?_; first | refine M1 rfl rfl rfl ?_ | refine M2 rfl rfl rfl ?_ | refine M3 rfl rfl rfl ?_ | refine M4 rfl rfl rfl ?_ | refine M5 rfl rfl rfl (fun _ => ?_) (fun _ => ?_) | refine M6 rfl rfl rfl (fun _ => ?_) (fun _ => ?_)) | (refine IsBin ?_; first | refine B1 rfl rfl rfl rfl ?_ | refine B2 rfl rfl rfl rfl ?_ | refine B3 rfl rfl rfl rfl ?_ | refine B4 rfl rfl rfl rfl ?_ | refine B5 rfl rfl rfl rfl ?_ | refine B6 rfl rfl rfl rfl ?_ | refine B7 rfl rfl rfl rfl rfl ?_ | refine B8 rfl rfl rfl rfl rfl ?_ | refine B9 rfl rfl rfl rfl rfl rfl rfl ?_ | refine BA rfl rfl rfl rfl rfl rfl rfl ?_) | (refine IsConv ?_; refine C1 rfl rfl rfl rfl rfl ?_) | (refine IsLoad ?_; first | refine L1 rfl rfl rfl rfl ?_ | refine L2 rfl rfl rfl rfl rfl ?_) | (refine IsStore ?_; refine S1 rfl rfl rfl rfl rfl rfl rfl (fun _ => ?_)) | (refine IsBox ?_; refine N1 rfl rfl rfl rfl (fun _ => ?_)) | (refine IsAlloc ?_; refine N2 rfl rfl rfl rfl (fun _ => ?_)) | (refine IsBuild ?_; refine U1 rfl rfl rfl rfl rfl rfl ?_) | refine V1 rfl rfl rfl ?_) | (refine IsAt ?_; first | (with_reducible first | refine T1 ?_ | refine T2 ?_ | refine T3 ?_ | refine T4 ?_ | refine T5 ?_ | refine T6 ?_ | refine T7 ?_ | refine T8 ?_ | refine T9 ?_ | refine TA ?_ | refine TB ?_ | refine TC ?_) | ((with_reducible show At _ (PBlock _ _ (Exit.exit _)) _ _); first | refine At_block_hit ?_ | refine At_block_miss rfl ?_)) | (refine IsJ ?_; first | refine J_seq ?_ | refine J_region ?_ | refine J_block ?_ | refine J_skip ?_ | refine J_ret ?_ | refine J_exit ?_ | (refine IsCond ?_; first | refine J_cond_t rfl ?_ | refine J_cond_f rfl ?_ | refine K1 rfl ?_ | refine K2 rfl ?_ | refine K3 rfl ?_ | refine K4 rfl ?_ | refine J_cb rfl (fun _ => ?_) (fun _ => ?_) | refine J_nb rfl (fun _ => ?_) (fun _ => ?_))))
        · refine JO_l (OL_call [] rfl rfl rfl (Steal_ok (who := (k : Int)) ⟨by omega, by omega⟩) rfl) rfl rfl ?_; rintro _ _ ⟨_, ⟨c, rfl, rfl⟩, rfl⟩
          repeat' (first | (refine IsO ?_; first | refine JO_nil ?_ | (refine IsG ?_; first | refine G1 rfl rfl ?_ | refine G2 rfl ?_) | (refine IsMove ?_; first | refine M1 rfl rfl rfl ?_ | refine M2 rfl rfl rfl ?_ | refine M3 rfl rfl rfl ?_ | refine M4 rfl rfl rfl ?_ | refine M5 rfl rfl rfl (fun _ => ?_) (fun _ => ?_) | refine M6 rfl rfl rfl (fun _ => ?_) (fun _ => ?_)) | (refine IsBin ?_; first | refine B1 rfl rfl rfl rfl ?_ | refine B2 rfl rfl rfl rfl ?_ | refine B3 rfl rfl rfl rfl ?_ | refine B4 rfl rfl rfl rfl ?_ | refine B5 rfl rfl rfl rfl ?_ | refine B6 rfl rfl rfl rfl ?_ | refine B7 rfl rfl rfl rfl rfl ?_ | refine B8 rfl rfl rfl rfl rfl ?_ | refine B9 rfl rfl rfl rfl rfl rfl rfl ?_ | refine BA rfl rfl rfl rfl rfl rfl rfl ?_) | (refine IsConv ?_; refine C1 rfl rfl rfl rfl rfl ?_) | (refine IsLoad ?_; first | refine L1 rfl rfl rfl rfl ?_ | refine L2 rfl rfl rfl rfl rfl ?_) | (refine IsStore ?_; refine S1 rfl rfl rfl rfl rfl rfl rfl (fun _ => ?_)) | (refine IsBox ?_; refine N1 rfl rfl rfl rfl (fun _ => ?_)) | (refine IsAlloc ?_; refine N2 rfl rfl rfl rfl (fun _ => ?_)) | (refine IsBuild ?_; refine U1 rfl rfl rfl rfl rfl rfl ?_) | refine V1 rfl rfl rfl ?_) | (refine IsAt ?_; first | (with_reducible first | refine T1 ?_ | refine T2 ?_ | refine T3 ?_ | refine T4 ?_ | refine T5 ?_ | refine T6 ?_ | refine T7 ?_ | refine T8 ?_ | refine T9 ?_ | refine TA ?_ | refine TB ?_ | refine TC ?_) | ((with_reducible show At _ (PBlock _ _ (Exit.exit _)) _ _); first | refine At_block_hit ?_ | refine At_block_miss rfl ?_)) | (refine IsJ ?_; first | refine J_seq ?_ | refine J_region ?_ | refine J_block ?_ | refine J_skip ?_ | refine J_ret ?_ | refine J_exit ?_ | (refine IsCond ?_; first | refine J_cond_t rfl ?_ | refine J_cond_f rfl ?_ | refine K1 rfl ?_ | refine K2 rfl ?_ | refine K3 rfl ?_ | refine K4 rfl ?_ | refine J_cb rfl (fun _ => ?_) (fun _ => ?_) | refine J_nb rfl (fun _ => ?_) (fun _ => ?_))))
          refine JO_val (OV_idxA (off := k) rfl rfl rfl rfl (by omega) (by omega) (by simp)) rfl rfl ?_
          refine JO_l0 (OL_store (i := 2) rfl rfl rfl rfl rfl rfl rfl (putL_slotVD ⟨k, true, false, c, 0, 0, 0, 0⟩ (ptr c 0) (by omega) rfl)) rfl ?_
          rintro _ _ rfl
          repeat' (first | (refine IsO ?_; first | refine JO_nil ?_ | (refine IsG ?_; first | refine G1 rfl rfl ?_ | refine G2 rfl ?_) | (refine IsMove ?_; first | refine M1 rfl rfl rfl ?_ | refine M2 rfl rfl rfl ?_ | refine M3 rfl rfl rfl ?_ | refine M4 rfl rfl rfl ?_ | refine M5 rfl rfl rfl (fun _ => ?_) (fun _ => ?_) | refine M6 rfl rfl rfl (fun _ => ?_) (fun _ => ?_)) | (refine IsBin ?_; first | refine B1 rfl rfl rfl rfl ?_ | refine B2 rfl rfl rfl rfl ?_ | refine B3 rfl rfl rfl rfl ?_ | refine B4 rfl rfl rfl rfl ?_ | refine B5 rfl rfl rfl rfl ?_ | refine B6 rfl rfl rfl rfl ?_ | refine B7 rfl rfl rfl rfl rfl ?_ | refine B8 rfl rfl rfl rfl rfl ?_ | refine B9 rfl rfl rfl rfl rfl rfl rfl ?_ | refine BA rfl rfl rfl rfl rfl rfl rfl ?_) | (refine IsConv ?_; refine C1 rfl rfl rfl rfl rfl ?_) | (refine IsLoad ?_; first | refine L1 rfl rfl rfl rfl ?_ | refine L2 rfl rfl rfl rfl rfl ?_) | (refine IsStore ?_; refine S1 rfl rfl rfl rfl rfl rfl rfl (fun _ => ?_)) | (refine IsBox ?_; refine N1 rfl rfl rfl rfl (fun _ => ?_)) | (refine IsAlloc ?_; refine N2 rfl rfl rfl rfl (fun _ => ?_)) | (refine IsBuild ?_; refine U1 rfl rfl rfl rfl rfl rfl ?_) | refine V1 rfl rfl rfl ?_) | (refine IsAt ?_; first | (with_reducible first | refine T1 ?_ | refine T2 ?_ | refine T3 ?_ | refine T4 ?_ | refine T5 ?_ | refine T6 ?_ | refine T7 ?_ | refine T8 ?_ | refine T9 ?_ | refine TA ?_ | refine TB ?_ | refine TC ?_) | ((with_reducible show At _ (PBlock _ _ (Exit.exit _)) _ _); first | refine At_block_hit ?_ | refine At_block_miss rfl ?_)) | (refine IsJ ?_; first | refine J_seq ?_ | refine J_region ?_ | refine J_block ?_ | refine J_skip ?_ | refine J_ret ?_ | refine J_exit ?_ | (refine IsCond ?_; first | refine J_cond_t rfl ?_ | refine J_cond_f rfl ?_ | refine K1 rfl ?_ | refine K2 rfl ?_ | refine K3 rfl ?_ | refine K4 rfl ?_ | refine J_cb rfl (fun _ => ?_) (fun _ => ?_) | refine J_nb rfl (fun _ => ?_) (fun _ => ?_))))
          have hsl : slotHD p ⟨k, true, false, c, 0, 0, 0, 0⟩ = dcL c p (k : Int) (nx 52) 0 0 0 0 := by
            unfold slotHD
            rw [if_pos rfl]
            unfold fnD
            rw [if_neg hk0]
            rfl
          obtain ⟨s1, hs1⟩ : ∃ s1 : DhG, s1 = ⟨s.cs.set k ⟨k, true, false, c, 0, 0, 0, 0⟩, s.pu, s.next, s.f, s.ws, s.P, s.T, s.a, s.cap, s.lg, s.nn⟩ := ⟨_, rfl⟩
          have hok1 : DhOk s1 i := by
            rw [hs1]
            exact ⟨hok.i.steal (by omega) hk4 c, hok.f, hok.lg, hok.nn⟩
          have hnx1 : s1.next = s.next := by rw [hs1]
          refine JO_hp (l' := dhM p pc bw b7 b8 b9 b10 b11 bm s1 ++ [Low W0]) (fun H hl => ?_) ?_
          · rw [hs1]
            refine bigM.put hx ?_
            rw [hsl]
            exact hl.pick (is := [1, 1, 0, 0, 0, 0, 0, 0, 0, 0, 0, 0, 0]) rfl
          refine JO_l (OL_call [0, 0, 0, 0, 0, 0, 0, 0, 0, 0, 0] rfl rfl rfl (hstep s1 hok1 ⟨by omega, by omega⟩) rfl) rfl rfl ?_
          rintro _ _ ⟨_, ⟨s', hok', hnx, _, rfl, rfl⟩, rfl⟩
          repeat' (first | (refine IsO ?_; first | refine JO_nil ?_ | (refine IsG ?_; first | refine G1 rfl rfl ?_ | refine G2 rfl ?_) | (refine IsMove ?_; first | refine M1 rfl rfl rfl ?_ | refine M2 rfl rfl rfl ?_ | refine M3 rfl rfl rfl ?_ | refine M4 rfl rfl rfl ?_ | refine M5 rfl rfl rfl (fun _ => ?_) (fun _ => ?_) | refine M6 rfl rfl rfl (fun _ => ?_) (fun _ => ?_)) | (refine IsBin ?_; first | refine B1 rfl rfl rfl rfl ?_ | refine B2 rfl rfl rfl rfl ?_ | refine B3 rfl rfl rfl rfl ?_ | refine B4 rfl rfl rfl rfl ?_ | refine B5 rfl rfl rfl rfl ?_ | refine B6 rfl rfl rfl rfl ?_ | refine B7 rfl rfl rfl rfl rfl ?_ | refine B8 rfl rfl rfl rfl rfl ?_ | refine B9 rfl rfl rfl rfl rfl rfl rfl ?_ | refine BA rfl rfl rfl rfl rfl rfl rfl ?_) | (refine IsConv ?_; refine C1 rfl rfl rfl rfl rfl ?_) | (refine IsLoad ?_; first | refine L1 rfl rfl rfl rfl ?_ | refine L2 rfl rfl rfl rfl rfl ?_) | (refine IsStore ?_; refine S1 rfl rfl rfl rfl rfl rfl rfl (fun _ => ?_)) | (refine IsBox ?_; refine N1 rfl rfl rfl rfl (fun _ => ?_)) | (refine IsAlloc ?_; refine N2 rfl rfl rfl rfl (fun _ => ?_)) | (refine IsBuild ?_; refine U1 rfl rfl rfl rfl rfl rfl ?_) | refine V1 rfl rfl rfl ?_) | (refine IsAt ?_; first | (with_reducible first | refine T1 ?_ | refine T2 ?_ | refine T3 ?_ | refine T4 ?_ | refine T5 ?_ | refine T6 ?_ | refine T7 ?_ | refine T8 ?_ | refine T9 ?_ | refine TA ?_ | refine TB ?_ | refine TC ?_) | ((with_reducible show At _ (PBlock _ _ (Exit.exit _)) _ _); first | refine At_block_hit ?_ | refine At_block_miss rfl ?_)) | (refine IsJ ?_; first | refine J_seq ?_ | refine J_region ?_ | refine J_block ?_ | refine J_skip ?_ | refine J_ret ?_ | refine J_exit ?_ | (refine IsCond ?_; first | refine J_cond_t rfl ?_ | refine J_cond_f rfl ?_ | refine K1 rfl ?_ | refine K2 rfl ?_ | refine K3 rfl ?_ | refine K4 rfl ?_ | refine J_cb rfl (fun _ => ?_) (fun _ => ?_) | refine J_nb rfl (fun _ => ?_) (fun _ => ?_))))
          exact At_round (i + 1, at_ + 1, s') (by show zs.length - (i + 1) < zs.length - i; omega) ⟨by show i + 1 ≤ zs.length; omega, by show at_ + 1 ≤ acs.length; omega, hok', by dsimp only; omega, by dsimp only; omega⟩ (by repeat (first | exact True.intro | refine And.intro rfl ?_)) (fun H hl => hl)
  · have hstep : ∀ k, k < 4 → ∀ t, t ≤ 5000 → ∀ s : DhG, DhOk s t → 1 ≤ s.next ∧ s.next ≤ 1000 → _ := fun k hk t ht s h hn => dhStep p pc bw b7 b8 b9 b10 b11 bm k t s h hk ht hn
    have hok0 : DhOk s (400 + 4 * 0) := ⟨hok.i.mono (by omega), hok.f, by have := hok.lg; omega, by have := hok.nn; omega⟩
    clear hok
    repeat' (first | (refine IsO ?_; first | refine JO_nil ?_ | (refine IsG ?_; first | refine G1 rfl rfl ?_ | refine G2 rfl ?_) | (refine IsMove ?_; first | refine M1 rfl rfl rfl ?_ | refine M2 rfl rfl rfl ?_ | refine M3 rfl rfl rfl ?_ | refine M4 rfl rfl rfl ?_ | refine M5 rfl rfl rfl (fun _ => ?_) (fun _ => ?_) | refine M6 rfl rfl rfl (fun _ => ?_) (fun _ => ?_)) | (refine IsBin ?_; first | refine B1 rfl rfl rfl rfl ?_ | refine B2 rfl rfl rfl rfl ?_ | refine B3 rfl rfl rfl rfl ?_ | refine B4 rfl rfl rfl rfl ?_ | refine B5 rfl rfl rfl rfl ?_ | refine B6 rfl rfl rfl rfl ?_ | refine B7 rfl rfl rfl rfl rfl ?_ | refine B8 rfl rfl rfl rfl rfl ?_ | refine B9 rfl rfl rfl rfl rfl rfl rfl ?_ | refine BA rfl rfl rfl rfl rfl rfl rfl ?_) | (refine IsConv ?_; refine C1 rfl rfl rfl rfl rfl ?_) | (refine IsLoad ?_; first | refine L1 rfl rfl rfl rfl ?_ | refine L2 rfl rfl rfl rfl rfl ?_) | (refine IsStore ?_; refine S1 rfl rfl rfl rfl rfl rfl rfl (fun _ => ?_)) | (refine IsBox ?_; refine N1 rfl rfl rfl rfl (fun _ => ?_)) | (refine IsAlloc ?_; refine N2 rfl rfl rfl rfl (fun _ => ?_)) | (refine IsBuild ?_; refine U1 rfl rfl rfl rfl rfl rfl ?_) | refine V1 rfl rfl rfl ?_) | (refine IsAt ?_; first | (with_reducible first | refine T1 ?_ | refine T2 ?_ | refine T3 ?_ | refine T4 ?_ | refine T5 ?_ | refine T6 ?_ | refine T7 ?_ | refine T8 ?_ | refine T9 ?_ | refine TA ?_ | refine TB ?_ | refine TC ?_) | ((with_reducible show At _ (PBlock _ _ (Exit.exit _)) _ _); first | refine At_block_hit ?_ | refine At_block_miss rfl ?_)) | (refine IsJ ?_; first | refine J_seq ?_ | refine J_region ?_ | refine J_block ?_ | refine J_skip ?_ | refine J_ret ?_ | refine J_exit ?_ | (refine IsCond ?_; first | refine J_cond_t rfl ?_ | refine J_cond_f rfl ?_ | refine K1 rfl ?_ | refine K2 rfl ?_ | refine K3 rfl ?_ | refine K4 rfl ?_ | refine J_cb rfl (fun _ => ?_) (fun _ => ?_) | refine J_nb rfl (fun _ => ?_) (fun _ => ?_))))
    refine J_loop (α := Nat × DhG) (fun x => x.1 ≤ 20 ∧ DhOk x.2 (400 + 4 * x.1) ∧ 1 ≤ x.2.next ∧ x.2.next ≤ 61 ∧ ∀ (j : Nat) (y : DK), x.2.cs[j]? = some y → y.on = true → x.1 ≤ y.s)
      (fun x => [(5, ptr p 0), (9, ptr b9 0), (12, .func (.func 41) #[] #[ptr b7 0, ptr b11 0]), (103, .int .i64 x.1)])
      (fun x => dhM p pc bw b7 b8 b9 b10 b11 bm x.2 ++ [Low W0]) (fun x => 20 - x.1) (0, s) ⟨Nat.zero_le _, hok0, hn1, by show s.next ≤ 61; omega, fun j y hy ho => Nat.zero_le _⟩ (by repeat (first | exact True.intro | refine And.intro rfl ?_)) (fun H hl => hl) ?_
    clear hok0 hn1 hn2 hat
    rintro ⟨r, s⟩ ⟨hr, hok, hn1, hn2, hm⟩
    dsimp only at hr hok hn1 hn2 hm ⊢
    repeat' (first | (refine IsO ?_; first | refine JO_nil ?_ | (refine IsG ?_; first | refine G1 rfl rfl ?_ | refine G2 rfl ?_) | (refine IsMove ?_; first | refine M1 rfl rfl rfl ?_ | refine M2 rfl rfl rfl ?_ | refine M3 rfl rfl rfl ?_ | refine M4 rfl rfl rfl ?_ | refine M5 rfl rfl rfl (fun _ => ?_) (fun _ => ?_) | refine M6 rfl rfl rfl (fun _ => ?_) (fun _ => ?_)) | (refine IsBin ?_; first | refine B1 rfl rfl rfl rfl ?_ | refine B2 rfl rfl rfl rfl ?_ | refine B3 rfl rfl rfl rfl ?_ | refine B4 rfl rfl rfl rfl ?_ | refine B5 rfl rfl rfl rfl ?_ | refine B6 rfl rfl rfl rfl ?_ | refine B7 rfl rfl rfl rfl rfl ?_ | refine B8 rfl rfl rfl rfl rfl ?_ | refine B9 rfl rfl rfl rfl rfl rfl rfl ?_ | refine BA rfl rfl rfl rfl rfl rfl rfl ?_) | (refine IsConv ?_; refine C1 rfl rfl rfl rfl rfl ?_) | (refine IsLoad ?_; first | refine L1 rfl rfl rfl rfl ?_ | refine L2 rfl rfl rfl rfl rfl ?_) | (refine IsStore ?_; refine S1 rfl rfl rfl rfl rfl rfl rfl (fun _ => ?_)) | (refine IsBox ?_; refine N1 rfl rfl rfl rfl (fun _ => ?_)) | (refine IsAlloc ?_; refine N2 rfl rfl rfl rfl (fun _ => ?_)) | (refine IsBuild ?_; refine U1 rfl rfl rfl rfl rfl rfl ?_) | refine V1 rfl rfl rfl ?_) | (refine IsAt ?_; first | (with_reducible first | refine T1 ?_ | refine T2 ?_ | refine T3 ?_ | refine T4 ?_ | refine T5 ?_ | refine T6 ?_ | refine T7 ?_ | refine T8 ?_ | refine T9 ?_ | refine TA ?_ | refine TB ?_ | refine TC ?_) | ((with_reducible show At _ (PBlock _ _ (Exit.exit _)) _ _); first | refine At_block_hit ?_ | refine At_block_miss rfl ?_)) | (refine IsJ ?_; first | refine J_seq ?_ | refine J_region ?_ | refine J_skip ?_ | refine J_ret ?_ | refine J_exit ?_ | (refine IsCond ?_; first | refine J_cond_t rfl ?_ | refine J_cond_f rfl ?_ | refine K1 rfl ?_ | refine K2 rfl ?_ | refine K3 rfl ?_ | refine K4 rfl ?_ | refine J_cb rfl (fun _ => ?_) (fun _ => ?_) | refine J_nb rfl (fun _ => ?_) (fun _ => ?_))))
    · rename_i hlt
      refine J_block ?_
      repeat' (first | (refine IsO ?_; first | refine JO_nil ?_ | (refine IsG ?_; first | refine G1 rfl rfl ?_ | refine G2 rfl ?_) | (refine IsMove ?_; first | refine M1 rfl rfl rfl ?_ | refine M2 rfl rfl rfl ?_ | refine M3 rfl rfl rfl ?_ | refine M4 rfl rfl rfl ?_ | refine M5 rfl rfl rfl (fun _ => ?_) (fun _ => ?_) | refine M6 rfl rfl rfl (fun _ => ?_) (fun _ => ?_)) | (refine IsBin ?_; first | refine B1 rfl rfl rfl rfl ?_ | refine B2 rfl rfl rfl rfl ?_ | refine B3 rfl rfl rfl rfl ?_ | refine B4 rfl rfl rfl rfl ?_ | refine B5 rfl rfl rfl rfl ?_ | refine B6 rfl rfl rfl rfl ?_ | refine B7 rfl rfl rfl rfl rfl ?_ | refine B8 rfl rfl rfl rfl rfl ?_ | refine B9 rfl rfl rfl rfl rfl rfl rfl ?_ | refine BA rfl rfl rfl rfl rfl rfl rfl ?_) | (refine IsConv ?_; refine C1 rfl rfl rfl rfl rfl ?_) | (refine IsLoad ?_; first | refine L1 rfl rfl rfl rfl ?_ | refine L2 rfl rfl rfl rfl rfl ?_) | (refine IsStore ?_; refine S1 rfl rfl rfl rfl rfl rfl rfl (fun _ => ?_)) | (refine IsBox ?_; refine N1 rfl rfl rfl rfl (fun _ => ?_)) | (refine IsAlloc ?_; refine N2 rfl rfl rfl rfl (fun _ => ?_)) | (refine IsBuild ?_; refine U1 rfl rfl rfl rfl rfl rfl ?_) | refine V1 rfl rfl rfl ?_) | (refine IsAt ?_; first | (with_reducible first | refine T1 ?_ | refine T2 ?_ | refine T3 ?_ | refine T4 ?_ | refine T5 ?_ | refine T6 ?_ | refine T7 ?_ | refine T8 ?_ | refine T9 ?_ | refine TA ?_ | refine TB ?_ | refine TC ?_) | ((with_reducible show At _ (PBlock _ _ (Exit.exit _)) _ _); first | refine At_block_hit ?_ | refine At_block_miss rfl ?_)) | (refine IsJ ?_; first | refine J_seq ?_ | refine J_region ?_ | refine J_block ?_ | refine J_skip ?_ | refine J_ret ?_ | refine J_exit ?_ | (refine IsCond ?_; first | refine J_cond_t rfl ?_ | refine J_cond_f rfl ?_ | refine K1 rfl ?_ | refine K2 rfl ?_ | refine K3 rfl ?_ | refine K4 rfl ?_ | refine J_cb rfl (fun _ => ?_) (fun _ => ?_) | refine J_nb rfl (fun _ => ?_) (fun _ => ?_))))
      refine J_loop (α := Nat × DhG) (fun x => x.1 ≤ 4 ∧ DhOk x.2 (400 + 4 * r + x.1) ∧ 1 ≤ x.2.next ∧ x.2.next ≤ 61 ∧ ∀ (j : Nat) (y : DK), x.2.cs[j]? = some y → y.on = true → (r ≤ y.s ∧ (j < x.1 → r + 1 ≤ y.s)))
        (fun x => [(5, ptr p 0), (9, ptr b9 0), (12, .func (.func 41) #[] #[ptr b7 0, ptr b11 0]), (103, .int .i64 r), (105, .int .i64 x.1)])
        (fun x => dhM p pc bw b7 b8 b9 b10 b11 bm x.2 ++ [Low W0]) (fun x => 4 - x.1) (0, s) ⟨Nat.zero_le _, hok, hn1, hn2, fun j y hy ho => ⟨hm j y hy ho, fun hj => absurd hj (Nat.not_lt_zero _)⟩⟩ (by repeat (first | exact True.intro | refine And.intro rfl ?_)) (fun H hl => hl) ?_
      rintro ⟨k, s1⟩ ⟨hk, hok1, hn11, hn12, hm1⟩
      dsimp only at hk hok1 hn11 hn12 hm1 ⊢
      repeat' (first | (refine IsO ?_; first | refine JO_nil ?_ | (refine IsG ?_; first | refine G1 rfl rfl ?_ | refine G2 rfl ?_) | (refine IsMove ?_; first | refine M1 rfl rfl rfl ?_ | refine M2 rfl rfl rfl ?_ | refine M3 rfl rfl rfl ?_ | refine M4 rfl rfl rfl ?_ | refine M5 rfl rfl rfl (fun _ => ?_) (fun _ => ?_) | refine M6 rfl rfl rfl (fun _ => ?_) (fun _ => ?_)) | (refine IsBin ?_; first | refine B1 rfl rfl rfl rfl ?_ | refine B2 rfl rfl rfl rfl ?_ | refine B3 rfl rfl rfl rfl ?_ | refine B4 rfl rfl rfl rfl ?_ | refine B5 rfl rfl rfl rfl ?_ | refine B6 rfl rfl rfl rfl ?_ | refine B7 rfl rfl rfl rfl rfl ?_ | refine B8 rfl rfl rfl rfl rfl ?_ | refine B9 rfl rfl rfl rfl rfl rfl rfl ?_ | refine BA rfl rfl rfl rfl rfl rfl rfl ?_) | (refine IsConv ?_; refine C1 rfl rfl rfl rfl rfl ?_) | (refine IsLoad ?_; first | refine L1 rfl rfl rfl rfl ?_ | refine L2 rfl rfl rfl rfl rfl ?_) | (refine IsStore ?_; refine S1 rfl rfl rfl rfl rfl rfl rfl (fun _ => ?_)) | (refine IsBox ?_; refine N1 rfl rfl rfl rfl (fun _ => ?_)) | (refine IsAlloc ?_; refine N2 rfl rfl rfl rfl (fun _ => ?_)) | (refine IsBuild ?_; refine U1 rfl rfl rfl rfl rfl rfl ?_) | refine V1 rfl rfl rfl ?_) | (refine IsAt ?_; first | (with_reducible first | refine T1 ?_ | refine T2 ?_ | refine T3 ?_ | refine T4 ?_ | refine T5 ?_ | refine T6 ?_ | refine T7 ?_ | refine T8 ?_ | refine T9 ?_ | refine TA ?_ | refine TB ?_ | refine TC ?_) | ((with_reducible show At _ (PBlock _ _ (Exit.exit _)) _ _); first | refine At_block_hit ?_ | refine At_block_miss rfl ?_)) | (refine IsJ ?_; first | refine J_seq ?_ | refine J_region ?_ | refine J_skip ?_ | refine J_ret ?_ | refine J_exit ?_ | (refine IsCond ?_; first | refine J_cond_t rfl ?_ | refine J_cond_f rfl ?_ | refine K1 rfl ?_ | refine K2 rfl ?_ | refine K3 rfl ?_ | refine K4 rfl ?_ | refine J_cb rfl (fun _ => ?_) (fun _ => ?_) | refine J_nb rfl (fun _ => ?_) (fun _ => ?_))))
      · rename_i hlt2
        refine J_block ?_
        repeat' (first | (refine IsO ?_; first | refine JO_nil ?_ | (refine IsG ?_; first | refine G1 rfl rfl ?_ | refine G2 rfl ?_) | (refine IsMove ?_; first | refine M1 rfl rfl rfl ?_ | refine M2 rfl rfl rfl ?_ | refine M3 rfl rfl rfl ?_ | refine M4 rfl rfl rfl ?_ | refine M5 rfl rfl rfl (fun _ => ?_) (fun _ => ?_) | refine M6 rfl rfl rfl (fun _ => ?_) (fun _ => ?_)) | (refine IsBin ?_; first | refine B1 rfl rfl rfl rfl ?_ | refine B2 rfl rfl rfl rfl ?_ | refine B3 rfl rfl rfl rfl ?_ | refine B4 rfl rfl rfl rfl ?_ | refine B5 rfl rfl rfl rfl ?_ | refine B6 rfl rfl rfl rfl ?_ | refine B7 rfl rfl rfl rfl rfl ?_ | refine B8 rfl rfl rfl rfl rfl ?_ | refine B9 rfl rfl rfl rfl rfl rfl rfl ?_ | refine BA rfl rfl rfl rfl rfl rfl rfl ?_) | (refine IsConv ?_; refine C1 rfl rfl rfl rfl rfl ?_) | (refine IsLoad ?_; first | refine L1 rfl rfl rfl rfl ?_ | refine L2 rfl rfl rfl rfl rfl ?_) | (refine IsStore ?_; refine S1 rfl rfl rfl rfl rfl rfl rfl (fun _ => ?_)) | (refine IsBox ?_; refine N1 rfl rfl rfl rfl (fun _ => ?_)) | (refine IsAlloc ?_; refine N2 rfl rfl rfl rfl (fun _ => ?_)) | (refine IsBuild ?_; refine U1 rfl rfl rfl rfl rfl rfl ?_) | refine V1 rfl rfl rfl ?_) | (refine IsAt ?_; first | (with_reducible first | refine T1 ?_ | refine T2 ?_ | refine T3 ?_ | refine T4 ?_ | refine T5 ?_ | refine T6 ?_ | refine T7 ?_ | refine T8 ?_ | refine T9 ?_ | refine TA ?_ | refine TB ?_ | refine TC ?_) | ((with_reducible show At _ (PBlock _ _ (Exit.exit _)) _ _); first | refine At_block_hit ?_ | refine At_block_miss rfl ?_)) | (refine IsJ ?_; first | refine J_seq ?_ | refine J_region ?_ | refine J_block ?_ | refine J_skip ?_ | refine J_ret ?_ | refine J_exit ?_ | (refine IsCond ?_; first | refine J_cond_t rfl ?_ | refine J_cond_f rfl ?_ | refine K1 rfl ?_ | refine K2 rfl ?_ | refine K3 rfl ?_ | refine K4 rfl ?_ | refine J_cb rfl (fun _ => ?_) (fun _ => ?_) | refine J_nb rfl (fun _ => ?_) (fun _ => ?_))))
        refine JO_l (OL_call [0, 0, 0, 0, 0, 0, 0, 0, 0, 0, 0] rfl rfl rfl (hstep k (by omega) _ (by omega) s1 hok1 ⟨hn11, by omega⟩) rfl) rfl rfl ?_
        rintro _ _ ⟨_, ⟨s', hok', hnx, hpr, rfl, rfl⟩, rfl⟩
        repeat' (first | (refine IsO ?_; first | refine JO_nil ?_ | (refine IsG ?_; first | refine G1 rfl rfl ?_ | refine G2 rfl ?_) | (refine IsMove ?_; first | refine M1 rfl rfl rfl ?_ | refine M2 rfl rfl rfl ?_ | refine M3 rfl rfl rfl ?_ | refine M4 rfl rfl rfl ?_ | refine M5 rfl rfl rfl (fun _ => ?_) (fun _ => ?_) | refine M6 rfl rfl rfl (fun _ => ?_) (fun _ => ?_)) | (refine IsBin ?_; first | refine B1 rfl rfl rfl rfl ?_ | refine B2 rfl rfl rfl rfl ?_ | refine B3 rfl rfl rfl rfl ?_ | refine B4 rfl rfl rfl rfl ?_ | refine B5 rfl rfl rfl rfl ?_ | refine B6 rfl rfl rfl rfl ?_ | refine B7 rfl rfl rfl rfl rfl ?_ | refine B8 rfl rfl rfl rfl rfl ?_ | refine B9 rfl rfl rfl rfl rfl rfl rfl ?_ | refine BA rfl rfl rfl rfl rfl rfl rfl ?_) | (refine IsConv ?_; refine C1 rfl rfl rfl rfl rfl ?_) | (refine IsLoad ?_; first | refine L1 rfl rfl rfl rfl ?_ | refine L2 rfl rfl rfl rfl rfl ?_) | (refine IsStore ?_; refine S1 rfl rfl rfl rfl rfl rfl rfl (fun _ => ?_)) | (refine IsBox ?_; refine N1 rfl rfl rfl rfl (fun _ => ?_)) | (refine IsAlloc ?_; refine N2 rfl rfl rfl rfl (fun _ => ?_)) | (refine IsBuild ?_; refine U1 rfl rfl rfl rfl rfl rfl ?_) | refine V1 rfl rfl rfl ?_) | (refine IsAt ?_; first | (with_reducible first | refine T1 ?_ | refine T2 ?_ | refine T3 ?_ | refine T4 ?_ | refine T5 ?_ | refine T6 ?_ | refine T7 ?_ | refine T8 ?_ | refine T9 ?_ | refine TA ?_ | refine TB ?_ | refine TC ?_) | ((with_reducible show At _ (PBlock _ _ (Exit.exit _)) _ _); first | refine At_block_hit ?_ | refine At_block_miss rfl ?_)) | (refine IsJ ?_; first | refine J_seq ?_ | refine J_region ?_ | refine J_block ?_ | refine J_skip ?_ | refine J_ret ?_ | refine J_exit ?_ | (refine IsCond ?_; first | refine J_cond_t rfl ?_ | refine J_cond_f rfl ?_ | refine K1 rfl ?_ | refine K2 rfl ?_ | refine K3 rfl ?_ | refine K4 rfl ?_ | refine J_cb rfl (fun _ => ?_) (fun _ => ?_) | refine J_nb rfl (fun _ => ?_) (fun _ => ?_))))
        refine At_round (k + 1, s') (by show 4 - (k + 1) < 4 - k; omega) ⟨by show k + 1 ≤ 4; omega, hok', by dsimp only; omega, by dsimp only; omega, fun j y hy ho => ?_⟩ (by repeat (first | exact True.intro | refine And.intro rfl ?_)) (fun H hl => hl)
        dsimp only at hy ⊢
        obtain ⟨e1, e2⟩ := hpr j y hy ho
        by_cases e : j = k
        · obtain ⟨x, hx, hon, hs⟩ := e1 e
          subst e
          have := (hm1 j x hx hon).1
          exact ⟨by omega, fun _ => by omega⟩
        · obtain ⟨f1, f2⟩ := hm1 j y (e2 e) ho
          exact ⟨f1, fun hj => f2 (by omega)⟩
      · have hk4 : k = 4 := by omega
        subst hk4
        have hcl := hok1.i.cl
        repeat' (first | (refine IsO ?_; first | refine JO_nil ?_ | (refine IsG ?_; first | refine G1 rfl rfl ?_ | refine G2 rfl ?_) | (refine IsMove ?_; first | refine M1 rfl rfl rfl ?_ | refine M2 rfl rfl rfl ?_ | refine M3 rfl rfl rfl ?_ | refine M4 rfl rfl rfl ?_ | refine M5 rfl rfl rfl (fun _ => ?_) (fun _ => ?_) | refine M6 rfl rfl rfl (fun _ => ?_) (fun _ => ?_)) | (refine IsBin ?_; first | refine B1 rfl rfl rfl rfl ?_ | refine B2 rfl rfl rfl rfl ?_ | refine B3 rfl rfl rfl rfl ?_ | refine B4 rfl rfl rfl rfl ?_ | refine B5 rfl rfl rfl rfl ?_ | refine B6 rfl rfl rfl rfl ?_ | refine B7 rfl rfl rfl rfl rfl ?_ | refine B8 rfl rfl rfl rfl rfl ?_ | refine B9 rfl rfl rfl rfl rfl rfl rfl ?_ | refine BA rfl rfl rfl rfl rfl rfl rfl ?_) | (refine IsConv ?_; refine C1 rfl rfl rfl rfl rfl ?_) | (refine IsLoad ?_; first | refine L1 rfl rfl rfl rfl ?_ | refine L2 rfl rfl rfl rfl rfl ?_) | (refine IsStore ?_; refine S1 rfl rfl rfl rfl rfl rfl rfl (fun _ => ?_)) | (refine IsBox ?_; refine N1 rfl rfl rfl rfl (fun _ => ?_)) | (refine IsAlloc ?_; refine N2 rfl rfl rfl rfl (fun _ => ?_)) | (refine IsBuild ?_; refine U1 rfl rfl rfl rfl rfl rfl ?_) | refine V1 rfl rfl rfl ?_) | (refine IsAt ?_; first | (with_reducible first | refine T1 ?_ | refine T2 ?_ | refine T3 ?_ | refine T4 ?_ | refine T5 ?_ | refine T6 ?_ | refine T7 ?_ | refine T8 ?_ | refine T9 ?_ | refine TA ?_ | refine TB ?_ | refine TC ?_) | ((with_reducible show At _ (PBlock _ _ (Exit.exit _)) _ _); first | refine At_block_hit ?_ | refine At_block_miss rfl ?_)) | (refine IsJ ?_; first | refine J_seq ?_ | refine J_region ?_ | refine J_block ?_ | refine J_skip ?_ | refine J_ret ?_ | refine J_exit ?_ | (refine IsCond ?_; first | refine J_cond_t rfl ?_ | refine J_cond_f rfl ?_ | refine K1 rfl ?_ | refine K2 rfl ?_ | refine K3 rfl ?_ | refine K4 rfl ?_ | refine J_cb rfl (fun _ => ?_) (fun _ => ?_) | refine J_nb rfl (fun _ => ?_) (fun _ => ?_))))
        refine At_round (r + 1, s1) (by show 20 - (r + 1) < 20 - r; omega) ⟨by show r + 1 ≤ 20; omega, ?_, hn11, hn12, fun j y hy ho => ?_⟩ (by repeat (first | exact True.intro | refine And.intro rfl ?_)) (fun H hl => hl)
        · show DhOk s1 (400 + 4 * (r + 1))
          rw [show 400 + 4 * (r + 1) = 400 + 4 * r + 4 by omega]
          exact hok1
        · exact (hm1 j y hy ho).2 (by have := (List.getElem?_eq_some_iff.1 hy).1; dsimp only at this; omega)
    · have hr20 : r = 20 := by omega
      subst hr20
      have hoff : ∀ (j : Nat) (y : DK), s.cs[j]? = some y → y.on = false := fun j y hy => by
        cases ho : y.on with
        | false => rfl
        | true =>
          have h1 := hm j y hy ho
          have h2 := hok.i.sle hy ho
          omega
      have hD := hok.i.fin hoff
      have htb := hok.i.tb
      have hpb := hok.i.pb
      have hlg := hok.lg
      have hnn := hok.nn
      have hf0 := hok.f
      have hPl : s.P.length ≤ 40 := by have := hok.i.ph; omega
      have hWd := deqWords_spec (p := p) (pc := pc) (bw := bw) (a := s.a) (cap := s.cap) (lg := s.lg) hD (by decide) (by omega)
      repeat' (first | (refine IsO ?_; first | refine JO_nil ?_ | (refine IsG ?_; first | refine G1 rfl rfl ?_ | refine G2 rfl ?_) | (refine IsMove ?_; first | refine M1 rfl rfl rfl ?_ | refine M2 rfl rfl rfl ?_ | refine M3 rfl rfl rfl ?_ | refine M4 rfl rfl rfl ?_ | refine M5 rfl rfl rfl (fun _ => ?_) (fun _ => ?_) | refine M6 rfl rfl rfl (fun _ => ?_) (fun _ => ?_)) | (refine IsBin ?_; first | refine B1 rfl rfl rfl rfl ?_ | refine B2 rfl rfl rfl rfl ?_ | refine B3 rfl rfl rfl rfl ?_ | refine B4 rfl rfl rfl rfl ?_ | refine B5 rfl rfl rfl rfl ?_ | refine B6 rfl rfl rfl rfl ?_ | refine B7 rfl rfl rfl rfl rfl ?_ | refine B8 rfl rfl rfl rfl rfl ?_ | refine B9 rfl rfl rfl rfl rfl rfl rfl ?_ | refine BA rfl rfl rfl rfl rfl rfl rfl ?_) | (refine IsConv ?_; refine C1 rfl rfl rfl rfl rfl ?_) | (refine IsLoad ?_; first | refine L1 rfl rfl rfl rfl ?_ | refine L2 rfl rfl rfl rfl rfl ?_) | (refine IsStore ?_; refine S1 rfl rfl rfl rfl rfl rfl rfl (fun _ => ?_)) | (refine IsBox ?_; refine N1 rfl rfl rfl rfl (fun _ => ?_)) | (refine IsAlloc ?_; refine N2 rfl rfl rfl rfl (fun _ => ?_)) | (refine IsBuild ?_; refine U1 rfl rfl rfl rfl rfl rfl ?_) | refine V1 rfl rfl rfl ?_) | (refine IsAt ?_; first | (with_reducible first | refine T1 ?_ | refine T2 ?_ | refine T3 ?_ | refine T4 ?_ | refine T5 ?_ | refine T6 ?_ | refine T7 ?_ | refine T8 ?_ | refine T9 ?_ | refine TA ?_ | refine TB ?_ | refine TC ?_) | ((with_reducible show At _ (PBlock _ _ (Exit.exit _)) _ _); first | refine At_block_hit ?_ | refine At_block_miss rfl ?_)) | (refine IsJ ?_; first | refine J_seq ?_ | refine J_region ?_ | refine J_block ?_ | refine J_skip ?_ | refine J_ret ?_ | refine J_exit ?_ | (refine IsCond ?_; first | refine J_cond_t rfl ?_ | refine J_cond_f rfl ?_ | refine K1 rfl ?_ | refine K2 rfl ?_ | refine K3 rfl ?_ | refine K4 rfl ?_ | refine J_cb rfl (fun _ => ?_) (fun _ => ?_) | refine J_nb rfl (fun _ => ?_) (fun _ => ?_))))
      refine JO_l (OL_call [7, 7, 7, 7] rfl rfl rfl hWd rfl) rfl rfl ?_
      rintro _ _ ⟨_, ⟨RR, a', c', hRR, rfl, rfl⟩, rfl⟩
      repeat' (first | (refine IsO ?_; first | refine JO_nil ?_ | (refine IsG ?_; first | refine G1 rfl rfl ?_ | refine G2 rfl ?_) | (refine IsMove ?_; first | refine M1 rfl rfl rfl ?_ | refine M2 rfl rfl rfl ?_ | refine M3 rfl rfl rfl ?_ | refine M4 rfl rfl rfl ?_ | refine M5 rfl rfl rfl (fun _ => ?_) (fun _ => ?_) | refine M6 rfl rfl rfl (fun _ => ?_) (fun _ => ?_)) | (refine IsBin ?_; first | refine B1 rfl rfl rfl rfl ?_ | refine B2 rfl rfl rfl rfl ?_ | refine B3 rfl rfl rfl rfl ?_ | refine B4 rfl rfl rfl rfl ?_ | refine B5 rfl rfl rfl rfl ?_ | refine B6 rfl rfl rfl rfl ?_ | refine B7 rfl rfl rfl rfl rfl ?_ | refine B8 rfl rfl rfl rfl rfl ?_ | refine B9 rfl rfl rfl rfl rfl rfl rfl ?_ | refine BA rfl rfl rfl rfl rfl rfl rfl ?_) | (refine IsConv ?_; refine C1 rfl rfl rfl rfl rfl ?_) | (refine IsLoad ?_; first | refine L1 rfl rfl rfl rfl ?_ | refine L2 rfl rfl rfl rfl rfl ?_) | (refine IsStore ?_; refine S1 rfl rfl rfl rfl rfl rfl rfl (fun _ => ?_)) | (refine IsBox ?_; refine N1 rfl rfl rfl rfl (fun _ => ?_)) | (refine IsAlloc ?_; refine N2 rfl rfl rfl rfl (fun _ => ?_)) | (refine IsBuild ?_; refine U1 rfl rfl rfl rfl rfl rfl ?_) | refine V1 rfl rfl rfl ?_) | (refine IsAt ?_; first | (with_reducible first | refine T1 ?_ | refine T2 ?_ | refine T3 ?_ | refine T4 ?_ | refine T5 ?_ | refine T6 ?_ | refine T7 ?_ | refine T8 ?_ | refine T9 ?_ | refine TA ?_ | refine TB ?_ | refine TC ?_) | ((with_reducible show At _ (PBlock _ _ (Exit.exit _)) _ _); first | refine At_block_hit ?_ | refine At_block_miss rfl ?_)) | (refine IsJ ?_; first | refine J_seq ?_ | refine J_region ?_ | refine J_block ?_ | refine J_skip ?_ | refine J_ret ?_ | refine J_exit ?_ | (refine IsCond ?_; first | refine J_cond_t rfl ?_ | refine J_cond_f rfl ?_ | refine K1 rfl ?_ | refine K2 rfl ?_ | refine K3 rfl ?_ | refine K4 rfl ?_ | refine J_cb rfl (fun _ => ?_) (fun _ => ?_) | refine J_nb rfl (fun _ => ?_) (fun _ => ?_))))
      have hcd : ∀ q u, s.P[q]? = some u → ∀ y, ((s.P.drop q).count y : Int) = ((s.P.drop (q + 1)).count y : Int) + (if y = u then 1 else 0) := by
        intro q u hu y
        have hql := (List.getElem?_eq_some_iff.1 hu).1
        have e : s.P.drop q = u :: s.P.drop (q + 1) := by
          rw [List.drop_eq_getElem_cons hql]
          rw [List.getElem?_eq_getElem hql] at hu
          injection hu with hu
          rw [hu]
        rw [e, count_cons']
        by_cases hy : y = u
        · rw [if_pos hy, if_pos hy]; omega
        · rw [if_neg hy, if_neg hy]; omega
      have hle : ∀ q y, ((s.P.drop q).count y : Int) ≤ 40 := fun q y => by
        have := List.count_le_length (l := s.P.drop q) (a := y)
        rw [List.length_drop] at this
        omega
      have hge : ∀ q y, (0 : Int) ≤ ((s.P.drop q).count y : Int) := fun q y => by omega
      have hnn1 : s.nn + s.P.length < maxLen := Nat.lt_of_le_of_lt (show s.nn + s.P.length ≤ 1000 by omega) (by decide)
      obtain ⟨n0, hn0⟩ : ∃ n0, n0 = s.nn := ⟨_, rfl⟩
      obtain ⟨F, hF⟩ : ∃ F : Nat → Int → Int, ∀ q y, F q y = ((s.P.drop q).count y : Int) := ⟨_, fun _ _ => rfl⟩
      have hF0 : s.f = F 0 := funext fun y => by rw [hf0, hF]; rfl
      rw [hF0]
      rw [← hn0] at hnn1
      rw [← hn0]
      refine J_loop (α := Nat) (fun q => q ≤ s.P.length) (fun q => [(5, ptr p 0), (9, ptr b9 0), (115, .slice a' s.P.length c'), (116, .int .i64 s.P.length), (117, .int .i64 q)])
        (fun q => mapH bm (n0 + q) (F q) :: RR :: deqL p pc bw s.a s.cap s.ws s.lg 40 ++ [bigM (slotHD p) s.cs, blk b7 (s.cs.map slotVD) 68, blk b8 [.int .i64 s.pu] 3, blk b9 [.map (some bm)] 43, blk b10 [.int .i64 s.next] 3, blk b11 [dhTk b7 b8 b9 b10] 44, Low W0]) (fun q => s.P.length - q) 0 (Nat.zero_le _) (by repeat (first | exact True.intro | refine And.intro rfl ?_)) (fun H hl => hl.pick (is := [10, 0, 0, 0, 0, 0, 0, 0, 0, 0, 0, 0, 0]) rfl) ?_
      intro q hq
      repeat' (first | (refine IsO ?_; first | refine JO_nil ?_ | (refine IsG ?_; first | refine G1 rfl rfl ?_ | refine G2 rfl ?_) | (refine IsMove ?_; first | refine M1 rfl rfl rfl ?_ | refine M2 rfl rfl rfl ?_ | refine M3 rfl rfl rfl ?_ | refine M4 rfl rfl rfl ?_ | refine M5 rfl rfl rfl (fun _ => ?_) (fun _ => ?_) | refine M6 rfl rfl rfl (fun _ => ?_) (fun _ => ?_)) | (refine IsBin ?_; first | refine B1 rfl rfl rfl rfl ?_ | refine B2 rfl rfl rfl rfl ?_ | refine B3 rfl rfl rfl rfl ?_ | refine B4 rfl rfl rfl rfl ?_ | refine B5 rfl rfl rfl rfl ?_ | refine B6 rfl rfl rfl rfl ?_ | refine B7 rfl rfl rfl rfl rfl ?_ | refine B8 rfl rfl rfl rfl rfl ?_ | refine B9 rfl rfl rfl rfl rfl rfl rfl ?_ | refine BA rfl rfl rfl rfl rfl rfl rfl ?_) | (refine IsConv ?_; refine C1 rfl rfl rfl rfl rfl ?_) | (refine IsLoad ?_; first | refine L1 rfl rfl rfl rfl ?_ | refine L2 rfl rfl rfl rfl rfl ?_) | (refine IsStore ?_; refine S1 rfl rfl rfl rfl rfl rfl rfl (fun _ => ?_)) | (refine IsBox ?_; refine N1 rfl rfl rfl rfl (fun _ => ?_)) | (refine IsAlloc ?_; refine N2 rfl rfl rfl rfl (fun _ => ?_)) | (refine IsBuild ?_; refine U1 rfl rfl rfl rfl rfl rfl ?_) | refine V1 rfl rfl rfl ?_) | (refine IsAt ?_; first | (with_reducible first | refine T1 ?_ | refine T2 ?_ | refine T3 ?_ | refine T4 ?_ | refine T5 ?_ | refine T6 ?_ | refine T7 ?_ | refine T8 ?_ | refine T9 ?_ | refine TA ?_ | refine TB ?_ | refine TC ?_) | ((with_reducible show At _ (PBlock _ _ (Exit.exit _)) _ _); first | refine At_block_hit ?_ | refine At_block_miss rfl ?_)) | (refine IsJ ?_; first | refine J_seq ?_ | refine J_region ?_ | refine J_skip ?_ | refine J_ret ?_ | refine J_exit ?_ | (refine IsCond ?_; first | refine J_cond_t rfl ?_ | refine J_cond_f rfl ?_ | refine K1 rfl ?_ | refine K2 rfl ?_ | refine K3 rfl ?_ | refine K4 rfl ?_ | refine J_cb rfl (fun _ => ?_) (fun _ => ?_) | refine J_nb rfl (fun _ => ?_) (fun _ => ?_))))
      · rename_i hlt3
        refine J_block ?_
        obtain ⟨u, hu⟩ : ∃ u, s.P[q]? = some u := ⟨s.P[q]'(by omega), List.getElem?_eq_getElem _⟩
        obtain ⟨hu0, hu1⟩ := hpb u (List.mem_of_getElem? hu)
        have hcq := hcd q u hu
        have hg1 := hge q u
        have hg2 := hle q u
        have hwf : wfI u := wfI_of (by omega) (by omega)
        repeat' (first | (refine IsO ?_; first | refine JO_nil ?_ | (refine IsG ?_; first | refine G1 rfl rfl ?_ | refine G2 rfl ?_) | (refine IsMove ?_; first | refine M1 rfl rfl rfl ?_ | refine M2 rfl rfl rfl ?_ | refine M3 rfl rfl rfl ?_ | refine M4 rfl rfl rfl ?_ | refine M5 rfl rfl rfl (fun _ => ?_) (fun _ => ?_) | refine M6 rfl rfl rfl (fun _ => ?_) (fun _ => ?_)) | (refine IsBin ?_; first | refine B1 rfl rfl rfl rfl ?_ | refine B2 rfl rfl rfl rfl ?_ | refine B3 rfl rfl rfl rfl ?_ | refine B4 rfl rfl rfl rfl ?_ | refine B5 rfl rfl rfl rfl ?_ | refine B6 rfl rfl rfl rfl ?_ | refine B7 rfl rfl rfl rfl rfl ?_ | refine B8 rfl rfl rfl rfl rfl ?_ | refine B9 rfl rfl rfl rfl rfl rfl rfl ?_ | refine BA rfl rfl rfl rfl rfl rfl rfl ?_) | (refine IsConv ?_; refine C1 rfl rfl rfl rfl rfl ?_) | (refine IsLoad ?_; first | refine L1 rfl rfl rfl rfl ?_ | refine L2 rfl rfl rfl rfl rfl ?_) | (refine IsStore ?_; refine S1 rfl rfl rfl rfl rfl rfl rfl (fun _ => ?_)) | (refine IsBox ?_; refine N1 rfl rfl rfl rfl (fun _ => ?_)) | (refine IsAlloc ?_; refine N2 rfl rfl rfl rfl (fun _ => ?_)) | (refine IsBuild ?_; refine U1 rfl rfl rfl rfl rfl rfl ?_) | refine V1 rfl rfl rfl ?_) | (refine IsAt ?_; first | (with_reducible first | refine T1 ?_ | refine T2 ?_ | refine T3 ?_ | refine T4 ?_ | refine T5 ?_ | refine T6 ?_ | refine T7 ?_ | refine T8 ?_ | refine T9 ?_ | refine TA ?_ | refine TB ?_ | refine TC ?_) | ((with_reducible show At _ (PBlock _ _ (Exit.exit _)) _ _); first | refine At_block_hit ?_ | refine At_block_miss rfl ?_)) | (refine IsJ ?_; first | refine J_seq ?_ | refine J_region ?_ | refine J_block ?_ | refine J_skip ?_ | refine J_ret ?_ | refine J_exit ?_ | (refine IsCond ?_; first | refine J_cond_t rfl ?_ | refine J_cond_f rfl ?_ | refine K1 rfl ?_ | refine K2 rfl ?_ | refine K3 rfl ?_ | refine K4 rfl ?_ | refine J_cb rfl (fun _ => ?_) (fun _ => ?_) | refine J_nb rfl (fun _ => ?_) (fun _ => ?_))))
        refine JO_fact _ (fun w hs => hRR.some (by omega) hs (by repeat (first | exact .head _ | refine .tail _ ?_))) ?_
        rintro ⟨b2, o2, rfl⟩
        refine JO_val (OV_idx (off := o2 + q) rfl rfl rfl rfl (by omega) (by omega) (by simp)) rfl rfl ?_
        refine JO_q (OQ_read (v := .int .i64 u) hRR (by repeat (first | exact .head _ | refine .tail _ ?_)) rfl rfl (by omega) (by simp [intsV, hu])) rfl rfl ?_
        repeat' (first | (refine IsO ?_; first | refine JO_nil ?_ | (refine IsG ?_; first | refine G1 rfl rfl ?_ | refine G2 rfl ?_) | (refine IsMove ?_; first | refine M1 rfl rfl rfl ?_ | refine M2 rfl rfl rfl ?_ | refine M3 rfl rfl rfl ?_ | refine M4 rfl rfl rfl ?_ | refine M5 rfl rfl rfl (fun _ => ?_) (fun _ => ?_) | refine M6 rfl rfl rfl (fun _ => ?_) (fun _ => ?_)) | (refine IsBin ?_; first | refine B1 rfl rfl rfl rfl ?_ | refine B2 rfl rfl rfl rfl ?_ | refine B3 rfl rfl rfl rfl ?_ | refine B4 rfl rfl rfl rfl ?_ | refine B5 rfl rfl rfl rfl ?_ | refine B6 rfl rfl rfl rfl ?_ | refine B7 rfl rfl rfl rfl rfl ?_ | refine B8 rfl rfl rfl rfl rfl ?_ | refine B9 rfl rfl rfl rfl rfl rfl rfl ?_ | refine BA rfl rfl rfl rfl rfl rfl rfl ?_) | (refine IsConv ?_; refine C1 rfl rfl rfl rfl rfl ?_) | (refine IsLoad ?_; first | refine L1 rfl rfl rfl rfl ?_ | refine L2 rfl rfl rfl rfl rfl ?_) | (refine IsStore ?_; refine S1 rfl rfl rfl rfl rfl rfl rfl (fun _ => ?_)) | (refine IsBox ?_; refine N1 rfl rfl rfl rfl (fun _ => ?_)) | (refine IsAlloc ?_; refine N2 rfl rfl rfl rfl (fun _ => ?_)) | (refine IsBuild ?_; refine U1 rfl rfl rfl rfl rfl rfl ?_) | refine V1 rfl rfl rfl ?_) | (refine IsAt ?_; first | (with_reducible first | refine T1 ?_ | refine T2 ?_ | refine T3 ?_ | refine T4 ?_ | refine T5 ?_ | refine T6 ?_ | refine T7 ?_ | refine T8 ?_ | refine T9 ?_ | refine TA ?_ | refine TB ?_ | refine TC ?_) | ((with_reducible show At _ (PBlock _ _ (Exit.exit _)) _ _); first | refine At_block_hit ?_ | refine At_block_miss rfl ?_)) | (refine IsJ ?_; first | refine J_seq ?_ | refine J_region ?_ | refine J_block ?_ | refine J_skip ?_ | refine J_ret ?_ | refine J_exit ?_ | (refine IsCond ?_; first | refine J_cond_t rfl ?_ | refine J_cond_f rfl ?_ | refine K1 rfl ?_ | refine K2 rfl ?_ | refine K3 rfl ?_ | refine K4 rfl ?_ | refine J_cb rfl (fun _ => ?_) (fun _ => ?_) | refine J_nb rfl (fun _ => ?_) (fun _ => ?_))))
        refine JO_q (OQ_lookup keyedI Try.underlying43 Try.underlying3 Try.underlying3 zeroI rfl rfl hwf (by repeat (first | exact .head _ | refine .tail _ ?_))) rfl rfl ?_
        rw [hF]
        repeat' (first | (refine IsO ?_; first | refine JO_nil ?_ | (refine IsG ?_; first | refine G1 rfl rfl ?_ | refine G2 rfl ?_) | (refine IsMove ?_; first | refine M1 rfl rfl rfl ?_ | refine M2 rfl rfl rfl ?_ | refine M3 rfl rfl rfl ?_ | refine M4 rfl rfl rfl ?_ | refine M5 rfl rfl rfl (fun _ => ?_) (fun _ => ?_) | refine M6 rfl rfl rfl (fun _ => ?_) (fun _ => ?_)) | (refine IsBin ?_; first | refine B1 rfl rfl rfl rfl ?_ | refine B2 rfl rfl rfl rfl ?_ | refine B3 rfl rfl rfl rfl ?_ | refine B4 rfl rfl rfl rfl ?_ | refine B5 rfl rfl rfl rfl ?_ | refine B6 rfl rfl rfl rfl ?_ | refine B7 rfl rfl rfl rfl rfl ?_ | refine B8 rfl rfl rfl rfl rfl ?_ | refine B9 rfl rfl rfl rfl rfl rfl rfl ?_ | refine BA rfl rfl rfl rfl rfl rfl rfl ?_) | (refine IsConv ?_; refine C1 rfl rfl rfl rfl rfl ?_) | (refine IsLoad ?_; first | refine L1 rfl rfl rfl rfl ?_ | refine L2 rfl rfl rfl rfl rfl ?_) | (refine IsStore ?_; refine S1 rfl rfl rfl rfl rfl rfl rfl (fun _ => ?_)) | (refine IsBox ?_; refine N1 rfl rfl rfl rfl (fun _ => ?_)) | (refine IsAlloc ?_; refine N2 rfl rfl rfl rfl (fun _ => ?_)) | (refine IsBuild ?_; refine U1 rfl rfl rfl rfl rfl rfl ?_) | refine V1 rfl rfl rfl ?_) | (refine IsAt ?_; first | (with_reducible first | refine T1 ?_ | refine T2 ?_ | refine T3 ?_ | refine T4 ?_ | refine T5 ?_ | refine T6 ?_ | refine T7 ?_ | refine T8 ?_ | refine T9 ?_ | refine TA ?_ | refine TB ?_ | refine TC ?_) | ((with_reducible show At _ (PBlock _ _ (Exit.exit _)) _ _); first | refine At_block_hit ?_ | refine At_block_miss rfl ?_)) | (refine IsJ ?_; first | refine J_seq ?_ | refine J_region ?_ | refine J_block ?_ | refine J_skip ?_ | refine J_ret ?_ | refine J_exit ?_ | (refine IsCond ?_; first | refine J_cond_t rfl ?_ | refine J_cond_f rfl ?_ | refine K1 rfl ?_ | refine K2 rfl ?_ | refine K3 rfl ?_ | refine K4 rfl ?_ | refine J_cb rfl (fun _ => ?_) (fun _ => ?_) | refine J_nb rfl (fun _ => ?_) (fun _ => ?_))))
        refine JO_l0 (OL_mapUpdate (i := 0) keyedI Try.underlying43 Try.underlying3 Try.underlying3 rfl rfl rfl hwf (wfI_of (by omega) (by omega)) (by omega) rfl) rfl ?_
        rintro _ _ rfl
        repeat' (first | (refine IsO ?_; first | refine JO_nil ?_ | (refine IsG ?_; first | refine G1 rfl rfl ?_ | refine G2 rfl ?_) | (refine IsMove ?_; first | refine M1 rfl rfl rfl ?_ | refine M2 rfl rfl rfl ?_ | refine M3 rfl rfl rfl ?_ | refine M4 rfl rfl rfl ?_ | refine M5 rfl rfl rfl (fun _ => ?_) (fun _ => ?_) | refine M6 rfl rfl rfl (fun _ => ?_) (fun _ => ?_)) | (refine IsBin ?_; first | refine B1 rfl rfl rfl rfl ?_ | refine B2 rfl rfl rfl rfl ?_ | refine B3 rfl rfl rfl rfl ?_ | refine B4 rfl rfl rfl rfl ?_ | refine B5 rfl rfl rfl rfl ?_ | refine B6 rfl rfl rfl rfl ?_ | refine B7 rfl rfl rfl rfl rfl ?_ | refine B8 rfl rfl rfl rfl rfl ?_ | refine B9 rfl rfl rfl rfl rfl rfl rfl ?_ | refine BA rfl rfl rfl rfl rfl rfl rfl ?_) | (refine IsConv ?_; refine C1 rfl rfl rfl rfl rfl ?_) | (refine IsLoad ?_; first | refine L1 rfl rfl rfl rfl ?_ | refine L2 rfl rfl rfl rfl rfl ?_) | (refine IsStore ?_; refine S1 rfl rfl rfl rfl rfl rfl rfl (fun _ => ?_)) | (refine IsBox ?_; refine N1 rfl rfl rfl rfl (fun _ => ?_)) | (refine IsAlloc ?_; refine N2 rfl rfl rfl rfl (fun _ => ?_)) | (refine IsBuild ?_; refine U1 rfl rfl rfl rfl rfl rfl ?_) | refine V1 rfl rfl rfl ?_) | (refine IsAt ?_; first | (with_reducible first | refine T1 ?_ | refine T2 ?_ | refine T3 ?_ | refine T4 ?_ | refine T5 ?_ | refine T6 ?_ | refine T7 ?_ | refine T8 ?_ | refine T9 ?_ | refine TA ?_ | refine TB ?_ | refine TC ?_) | ((with_reducible show At _ (PBlock _ _ (Exit.exit _)) _ _); first | refine At_block_hit ?_ | refine At_block_miss rfl ?_)) | (refine IsJ ?_; first | refine J_seq ?_ | refine J_region ?_ | refine J_block ?_ | refine J_skip ?_ | refine J_ret ?_ | refine J_exit ?_ | (refine IsCond ?_; first | refine J_cond_t rfl ?_ | refine J_cond_f rfl ?_ | refine K1 rfl ?_ | refine K2 rfl ?_ | refine K3 rfl ?_ | refine K4 rfl ?_ | refine J_cb rfl (fun _ => ?_) (fun _ => ?_) | refine J_nb rfl (fun _ => ?_) (fun _ => ?_))))
        refine At_round (q + 1) (by show s.P.length - (q + 1) < s.P.length - q; omega) (by show q + 1 ≤ s.P.length; omega) (by repeat (first | exact True.intro | refine And.intro rfl ?_)) (fun H hl => ?_)
        have e : F (q + 1) = (fun z => if z = u then ((s.P.drop q).count u : Int) - 1 else F q z) := funext fun y => by
          have := hcq y
          by_cases hy : y = u
          · rw [if_pos hy] at this ⊢
            subst hy
            rw [hF]; omega
          · rw [if_neg hy] at this ⊢
            rw [hF, hF]; omega
        rw [e]
        exact hl
      · have hqe : q = s.P.length := by omega
        subst hqe
        have hz : ∀ y, F s.P.length y = 0 := fun y => by rw [hF, List.drop_length]; rfl
        repeat' (first | (refine IsO ?_; first | refine JO_nil ?_ | (refine IsG ?_; first | refine G1 rfl rfl ?_ | refine G2 rfl ?_) | (refine IsMove ?_; first | refine M1 rfl rfl rfl ?_ | refine M2 rfl rfl rfl ?_ | refine M3 rfl rfl rfl ?_ | refine M4 rfl rfl rfl ?_ | refine M5 rfl rfl rfl (fun _ => ?_) (fun _ => ?_) | refine M6 rfl rfl rfl (fun _ => ?_) (fun _ => ?_)) | (refine IsBin ?_; first | refine B1 rfl rfl rfl rfl ?_ | refine B2 rfl rfl rfl rfl ?_ | refine B3 rfl rfl rfl rfl ?_ | refine B4 rfl rfl rfl rfl ?_ | refine B5 rfl rfl rfl rfl ?_ | refine B6 rfl rfl rfl rfl ?_ | refine B7 rfl rfl rfl rfl rfl ?_ | refine B8 rfl rfl rfl rfl rfl ?_ | refine B9 rfl rfl rfl rfl rfl rfl rfl ?_ | refine BA rfl rfl rfl rfl rfl rfl rfl ?_) | (refine IsConv ?_; refine C1 rfl rfl rfl rfl rfl ?_) | (refine IsLoad ?_; first | refine L1 rfl rfl rfl rfl ?_ | refine L2 rfl rfl rfl rfl rfl ?_) | (refine IsStore ?_; refine S1 rfl rfl rfl rfl rfl rfl rfl (fun _ => ?_)) | (refine IsBox ?_; refine N1 rfl rfl rfl rfl (fun _ => ?_)) | (refine IsAlloc ?_; refine N2 rfl rfl rfl rfl (fun _ => ?_)) | (refine IsBuild ?_; refine U1 rfl rfl rfl rfl rfl rfl ?_) | refine V1 rfl rfl rfl ?_) | (refine IsAt ?_; first | (with_reducible first | refine T1 ?_ | refine T2 ?_ | refine T3 ?_ | refine T4 ?_ | refine T5 ?_ | refine T6 ?_ | refine T7 ?_ | refine T8 ?_ | refine T9 ?_ | refine TA ?_ | refine TB ?_ | refine TC ?_) | ((with_reducible show At _ (PBlock _ _ (Exit.exit _)) _ _); first | refine At_block_hit ?_ | refine At_block_miss rfl ?_)) | (refine IsJ ?_; first | refine J_seq ?_ | refine J_region ?_ | refine J_block ?_ | refine J_skip ?_ | refine J_ret ?_ | refine J_exit ?_ | (refine IsCond ?_; first | refine J_cond_t rfl ?_ | refine J_cond_f rfl ?_ | refine K1 rfl ?_ | refine K2 rfl ?_ | refine K3 rfl ?_ | refine K4 rfl ?_ | refine J_cb rfl (fun _ => ?_) (fun _ => ?_) | refine J_nb rfl (fun _ => ?_) (fun _ => ?_))))
        refine JO_l (OL_range (i := 0) Try.underlying43 rfl rfl) rfl rfl ?_
        rintro _ _ ⟨r, cnt, rfl, rfl⟩
        repeat' (first | (refine IsO ?_; first | refine JO_nil ?_ | (refine IsG ?_; first | refine G1 rfl rfl ?_ | refine G2 rfl ?_) | (refine IsMove ?_; first | refine M1 rfl rfl rfl ?_ | refine M2 rfl rfl rfl ?_ | refine M3 rfl rfl rfl ?_ | refine M4 rfl rfl rfl ?_ | refine M5 rfl rfl rfl (fun _ => ?_) (fun _ => ?_) | refine M6 rfl rfl rfl (fun _ => ?_) (fun _ => ?_)) | (refine IsBin ?_; first | refine B1 rfl rfl rfl rfl ?_ | refine B2 rfl rfl rfl rfl ?_ | refine B3 rfl rfl rfl rfl ?_ | refine B4 rfl rfl rfl rfl ?_ | refine B5 rfl rfl rfl rfl ?_ | refine B6 rfl rfl rfl rfl ?_ | refine B7 rfl rfl rfl rfl rfl ?_ | refine B8 rfl rfl rfl rfl rfl ?_ | refine B9 rfl rfl rfl rfl rfl rfl rfl ?_ | refine BA rfl rfl rfl rfl rfl rfl rfl ?_) | (refine IsConv ?_; refine C1 rfl rfl rfl rfl rfl ?_) | (refine IsLoad ?_; first | refine L1 rfl rfl rfl rfl ?_ | refine L2 rfl rfl rfl rfl rfl ?_) | (refine IsStore ?_; refine S1 rfl rfl rfl rfl rfl rfl rfl (fun _ => ?_)) | (refine IsBox ?_; refine N1 rfl rfl rfl rfl (fun _ => ?_)) | (refine IsAlloc ?_; refine N2 rfl rfl rfl rfl (fun _ => ?_)) | (refine IsBuild ?_; refine U1 rfl rfl rfl rfl rfl rfl ?_) | refine V1 rfl rfl rfl ?_) | (refine IsAt ?_; first | (with_reducible first | refine T1 ?_ | refine T2 ?_ | refine T3 ?_ | refine T4 ?_ | refine T5 ?_ | refine T6 ?_ | refine T7 ?_ | refine T8 ?_ | refine T9 ?_ | refine TA ?_ | refine TB ?_ | refine TC ?_) | ((with_reducible show At _ (PBlock _ _ (Exit.exit _)) _ _); first | refine At_block_hit ?_ | refine At_block_miss rfl ?_)) | (refine IsJ ?_; first | refine J_seq ?_ | refine J_region ?_ | refine J_block ?_ | refine J_skip ?_ | refine J_ret ?_ | refine J_exit ?_ | (refine IsCond ?_; first | refine J_cond_t rfl ?_ | refine J_cond_f rfl ?_ | refine K1 rfl ?_ | refine K2 rfl ?_ | refine K3 rfl ?_ | refine K4 rfl ?_ | refine J_cb rfl (fun _ => ?_) (fun _ => ?_) | refine J_nb rfl (fun _ => ?_) (fun _ => ?_))))
        refine J_loop (α := Nat) (fun _ => True) (fun _ => [(127, ptr r 0)])
          (fun q => rngI Try.prog 3 3 bm r (n0 + s.P.length) (F s.P.length) q :: RR :: deqL p pc bw s.a s.cap s.ws s.lg 40 ++ [bigM (slotHD p) s.cs, blk b7 (s.cs.map slotVD) 68, blk b8 [.int .i64 s.pu] 3, blk b9 [.map (some bm)] 43, blk b10 [.int .i64 s.next] 3, blk b11 [dhTk b7 b8 b9 b10] 44, Low W0]) (fun q => q) cnt trivial (by repeat (first | exact True.intro | refine And.intro rfl ?_)) (fun H hl => hl) ?_
        intro c _
        repeat' (first | (refine IsO ?_; first | refine JO_nil ?_ | (refine IsG ?_; first | refine G1 rfl rfl ?_ | refine G2 rfl ?_) | (refine IsMove ?_; first | refine M1 rfl rfl rfl ?_ | refine M2 rfl rfl rfl ?_ | refine M3 rfl rfl rfl ?_ | refine M4 rfl rfl rfl ?_ | refine M5 rfl rfl rfl (fun _ => ?_) (fun _ => ?_) | refine M6 rfl rfl rfl (fun _ => ?_) (fun _ => ?_)) | (refine IsBin ?_; first | refine B1 rfl rfl rfl rfl ?_ | refine B2 rfl rfl rfl rfl ?_ | refine B3 rfl rfl rfl rfl ?_ | refine B4 rfl rfl rfl rfl ?_ | refine B5 rfl rfl rfl rfl ?_ | refine B6 rfl rfl rfl rfl ?_ | refine B7 rfl rfl rfl rfl rfl ?_ | refine B8 rfl rfl rfl rfl rfl ?_ | refine B9 rfl rfl rfl rfl rfl rfl rfl ?_ | refine BA rfl rfl rfl rfl rfl rfl rfl ?_) | (refine IsConv ?_; refine C1 rfl rfl rfl rfl rfl ?_) | (refine IsLoad ?_; first | refine L1 rfl rfl rfl rfl ?_ | refine L2 rfl rfl rfl rfl rfl ?_) | (refine IsStore ?_; refine S1 rfl rfl rfl rfl rfl rfl rfl (fun _ => ?_)) | (refine IsBox ?_; refine N1 rfl rfl rfl rfl (fun _ => ?_)) | (refine IsAlloc ?_; refine N2 rfl rfl rfl rfl (fun _ => ?_)) | (refine IsBuild ?_; refine U1 rfl rfl rfl rfl rfl rfl ?_) | refine V1 rfl rfl rfl ?_) | (refine IsAt ?_; first | (with_reducible first | refine T1 ?_ | refine T2 ?_ | refine T3 ?_ | refine T4 ?_ | refine T5 ?_ | refine T6 ?_ | refine T7 ?_ | refine T8 ?_ | refine T9 ?_ | refine TA ?_ | refine TB ?_ | refine TC ?_) | ((with_reducible show At _ (PBlock _ _ (Exit.exit _)) _ _); first | refine At_block_hit ?_ | refine At_block_miss rfl ?_)) | (refine IsJ ?_; first | refine J_seq ?_ | refine J_region ?_ | refine J_skip ?_ | refine J_ret ?_ | refine J_exit ?_ | (refine IsCond ?_; first | refine J_cond_t rfl ?_ | refine J_cond_f rfl ?_ | refine K1 rfl ?_ | refine K2 rfl ?_ | refine K3 rfl ?_ | refine K4 rfl ?_ | refine J_cb rfl (fun _ => ?_) (fun _ => ?_) | refine J_nb rfl (fun _ => ?_) (fun _ => ?_))))
        refine JO_l (OL_next (i := 0) keyedI Try.underlying3 Try.underlying3 rfl rfl) rfl rfl ?_
        rintro _ _ (⟨rfl, rfl⟩ | ⟨key, c1, hc1, rfl, rfl⟩)
        · repeat' (first | (refine IsO ?_; first | refine JO_nil ?_ | (refine IsG ?_; first | refine G1 rfl rfl ?_ | refine G2 rfl ?_) | (refine IsMove ?_; first | refine M1 rfl rfl rfl ?_ | refine M2 rfl rfl rfl ?_ | refine M3 rfl rfl rfl ?_ | refine M4 rfl rfl rfl ?_ | refine M5 rfl rfl rfl (fun _ => ?_) (fun _ => ?_) | refine M6 rfl rfl rfl (fun _ => ?_) (fun _ => ?_)) | (refine IsBin ?_; first | refine B1 rfl rfl rfl rfl ?_ | refine B2 rfl rfl rfl rfl ?_ | refine B3 rfl rfl rfl rfl ?_ | refine B4 rfl rfl rfl rfl ?_ | refine B5 rfl rfl rfl rfl ?_ | refine B6 rfl rfl rfl rfl ?_ | refine B7 rfl rfl rfl rfl rfl ?_ | refine B8 rfl rfl rfl rfl rfl ?_ | refine B9 rfl rfl rfl rfl rfl rfl rfl ?_ | refine BA rfl rfl rfl rfl rfl rfl rfl ?_) | (refine IsConv ?_; refine C1 rfl rfl rfl rfl rfl ?_) | (refine IsLoad ?_; first | refine L1 rfl rfl rfl rfl ?_ | refine L2 rfl rfl rfl rfl rfl ?_) | (refine IsStore ?_; refine S1 rfl rfl rfl rfl rfl rfl rfl (fun _ => ?_)) | (refine IsBox ?_; refine N1 rfl rfl rfl rfl (fun _ => ?_)) | (refine IsAlloc ?_; refine N2 rfl rfl rfl rfl (fun _ => ?_)) | (refine IsBuild ?_; refine U1 rfl rfl rfl rfl rfl rfl ?_) | refine V1 rfl rfl rfl ?_) | (refine IsAt ?_; first | (with_reducible first | refine T1 ?_ | refine T2 ?_ | refine T3 ?_ | refine T4 ?_ | refine T5 ?_ | refine T6 ?_ | refine T7 ?_ | refine T8 ?_ | refine T9 ?_ | refine TA ?_ | refine TB ?_ | refine TC ?_) | ((with_reducible show At _ (PBlock _ _ (Exit.exit _)) _ _); first | refine At_block_hit ?_ | refine At_block_miss rfl ?_)) | (refine IsJ ?_; first | refine J_seq ?_ | refine J_region ?_ | refine J_block ?_ | refine J_skip ?_ | refine J_ret ?_ | refine J_exit ?_ | (refine IsCond ?_; first | refine J_cond_t rfl ?_ | refine J_cond_f rfl ?_ | refine K1 rfl ?_ | refine K2 rfl ?_ | refine K3 rfl ?_ | refine K4 rfl ?_ | refine J_cb rfl (fun _ => ?_) (fun _ => ?_) | refine J_nb rfl (fun _ => ?_) (fun _ => ?_))))
          exact At_ret rfl rfl (.tmp rfl .nil) rfl (is := [12]) rfl ⟨rfl, rfl⟩
        · repeat' (first | (refine IsO ?_; first | refine JO_nil ?_ | (refine IsG ?_; first | refine G1 rfl rfl ?_ | refine G2 rfl ?_) | (refine IsMove ?_; first | refine M1 rfl rfl rfl ?_ | refine M2 rfl rfl rfl ?_ | refine M3 rfl rfl rfl ?_ | refine M4 rfl rfl rfl ?_ | refine M5 rfl rfl rfl (fun _ => ?_) (fun _ => ?_) | refine M6 rfl rfl rfl (fun _ => ?_) (fun _ => ?_)) | (refine IsBin ?_; first | refine B1 rfl rfl rfl rfl ?_ | refine B2 rfl rfl rfl rfl ?_ | refine B3 rfl rfl rfl rfl ?_ | refine B4 rfl rfl rfl rfl ?_ | refine B5 rfl rfl rfl rfl ?_ | refine B6 rfl rfl rfl rfl ?_ | refine B7 rfl rfl rfl rfl rfl ?_ | refine B8 rfl rfl rfl rfl rfl ?_ | refine B9 rfl rfl rfl rfl rfl rfl rfl ?_ | refine BA rfl rfl rfl rfl rfl rfl rfl ?_) | (refine IsConv ?_; refine C1 rfl rfl rfl rfl rfl ?_) | (refine IsLoad ?_; first | refine L1 rfl rfl rfl rfl ?_ | refine L2 rfl rfl rfl rfl rfl ?_) | (refine IsStore ?_; refine S1 rfl rfl rfl rfl rfl rfl rfl (fun _ => ?_)) | (refine IsBox ?_; refine N1 rfl rfl rfl rfl (fun _ => ?_)) | (refine IsAlloc ?_; refine N2 rfl rfl rfl rfl (fun _ => ?_)) | (refine IsBuild ?_; refine U1 rfl rfl rfl rfl rfl rfl ?_) | refine V1 rfl rfl rfl ?_) | (refine IsAt ?_; first | (with_reducible first | refine T1 ?_ | refine T2 ?_ | refine T3 ?_ | refine T4 ?_ | refine T5 ?_ | refine T6 ?_ | refine T7 ?_ | refine T8 ?_ | refine T9 ?_ | refine TA ?_ | refine TB ?_ | refine TC ?_) | ((with_reducible show At _ (PBlock _ _ (Exit.exit _)) _ _); first | refine At_block_hit ?_ | refine At_block_miss rfl ?_)) | (refine IsJ ?_; first | refine J_seq ?_ | refine J_region ?_ | refine J_block ?_ | refine J_skip ?_ | refine J_ret ?_ | refine J_exit ?_ | (refine IsCond ?_; first | refine J_cond_t rfl ?_ | refine J_cond_f rfl ?_ | refine K1 rfl ?_ | refine K2 rfl ?_ | refine K3 rfl ?_ | refine K4 rfl ?_ | refine J_cb rfl (fun _ => ?_) (fun _ => ?_) | refine J_nb rfl (fun _ => ?_) (fun _ => ?_))))
          refine JO_q (OQ_entry (k := 3) (e := 3) rfl (by repeat (first | exact .head _ | refine .tail _ ?_))) rfl rfl ?_
          rw [hz]
          repeat' (first | (refine IsO ?_; first | refine JO_nil ?_ | (refine IsG ?_; first | refine G1 rfl rfl ?_ | refine G2 rfl ?_) | (refine IsMove ?_; first | refine M1 rfl rfl rfl ?_ | refine M2 rfl rfl rfl ?_ | refine M3 rfl rfl rfl ?_ | refine M4 rfl rfl rfl ?_ | refine M5 rfl rfl rfl (fun _ => ?_) (fun _ => ?_) | refine M6 rfl rfl rfl (fun _ => ?_) (fun _ => ?_)) | (refine IsBin ?_; first | refine B1 rfl rfl rfl rfl ?_ | refine B2 rfl rfl rfl rfl ?_ | refine B3 rfl rfl rfl rfl ?_ | refine B4 rfl rfl rfl rfl ?_ | refine B5 rfl rfl rfl rfl ?_ | refine B6 rfl rfl rfl rfl ?_ | refine B7 rfl rfl rfl rfl rfl ?_ | refine B8 rfl rfl rfl rfl rfl ?_ | refine B9 rfl rfl rfl rfl rfl rfl rfl ?_ | refine BA rfl rfl rfl rfl rfl rfl rfl ?_) | (refine IsConv ?_; refine C1 rfl rfl rfl rfl rfl ?_) | (refine IsLoad ?_; first | refine L1 rfl rfl rfl rfl ?_ | refine L2 rfl rfl rfl rfl rfl ?_) | (refine IsStore ?_; refine S1 rfl rfl rfl rfl rfl rfl rfl (fun _ => ?_)) | (refine IsBox ?_; refine N1 rfl rfl rfl rfl (fun _ => ?_)) | (refine IsAlloc ?_; refine N2 rfl rfl rfl rfl (fun _ => ?_)) | (refine IsBuild ?_; refine U1 rfl rfl rfl rfl rfl rfl ?_) | refine V1 rfl rfl rfl ?_) | (refine IsAt ?_; first | (with_reducible first | refine T1 ?_ | refine T2 ?_ | refine T3 ?_ | refine T4 ?_ | refine T5 ?_ | refine T6 ?_ | refine T7 ?_ | refine T8 ?_ | refine T9 ?_ | refine TA ?_ | refine TB ?_ | refine TC ?_) | ((with_reducible show At _ (PBlock _ _ (Exit.exit _)) _ _); first | refine At_block_hit ?_ | refine At_block_miss rfl ?_)) | (refine IsJ ?_; first | refine J_seq ?_ | refine J_region ?_ | refine J_block ?_ | refine J_skip ?_ | refine J_ret ?_ | refine J_exit ?_ | (refine IsCond ?_; first | refine J_cond_t rfl ?_ | refine J_cond_f rfl ?_ | refine K1 rfl ?_ | refine K2 rfl ?_ | refine K3 rfl ?_ | refine K4 rfl ?_ | refine J_cb rfl (fun _ => ?_) (fun _ => ?_) | refine J_nb rfl (fun _ => ?_) (fun _ => ?_))))
          exact At_round c1 hc1 trivial (by repeat (first | exact True.intro | refine And.intro rfl ?_)) (fun H hl => hl.weak fun h hp => hp.rng)
end Go.Proofs.Ytjllfgocgehpeaa
