/-
  Our own: what the claims of Zv share, 1 of 6: Sep Ja Jb Jc Jd Je Jf Jg Jh Ji Jj Rw Jk Jl Jm Jn Jo Jp Jq.
-/
import Derived.Below
import Derived.TacticsIn
import Derived.OrdersIn
import Derived.KernelRfl
import Derived.Laws.Entries
import Derived.Laws.Rows
import Derived.Shelf.Abstract
import Derived.IntWalk
import Derived.Deep.Quiet
import Derived.Laws.Slices
import Derived.Laws.StructEq
import Derived.Tactics
import Derived.ChangeArms
import Derived.WalkKit
import Derived.ProofKit
import Derived.OpenShut
import Derived.ChangeOld
import Derived.SizedLaws
import Derived.Carry
import Derived.Lib.SmallJoins
import Derived.LoopNIn
import Derived.RangeFuncStops
import Derived.RangeFuncLeaves
set_option linter.unusedVariables false
set_option linter.unusedSimpArgs false
namespace Go.Sep
abbrev PH := Nat → Option Obj
abbrev HP := PH → Prop
def Sub (h H : PH) : Prop := ∀ k o, h k = some o → H k = some o
theorem Sub.refl (h : PH) : Sub h h := fun _ _ e => e
theorem Sub.trans {a b c : PH} (h : Sub a b) (k : Sub b c) : Sub a c := fun i o e => k i o (h i o e)
def Apart (a b : PH) : Prop := ∀ k, a k = none ∨ b k = none
theorem Apart.symm {a b : PH} (h : Apart a b) : Apart b a := fun k => (h k).symm
theorem Apart.sub {a b a' b' : PH} (h : Apart a b) (ha : Sub a' a) (hb : Sub b' b) : Apart a' b' := fun k => by
  rcases h k with e | e
  · left; cases x : a' k with
    | none => rfl
    | some o => rw [ha k o x] at e; cases e
  · right; cases x : b' k with
    | none => rfl
    | some o => rw [hb k o x] at e; cases e
def Stars : List HP → PH → Prop
  | [], _ => True
  | p :: l, H => ∃ h1 h2 : PH, Apart h1 h2 ∧ Sub h1 H ∧ Sub h2 H ∧ p h1 ∧ Stars l h2
def pt (b : Nat) (o : Obj) : HP := fun h => h b = some o
def big (l : List HP) : HP := Stars l
theorem Stars.mono {l : List HP} {H H' : PH} (h : Stars l H) (s : Sub H H') : Stars l H' := by
  cases l with
  | nil => trivial
  | cons p l => obtain ⟨h1, h2, ap, s1, s2, hp, hl⟩ := h; exact ⟨h1, h2, ap, s1.trans s, s2.trans s, hp, hl⟩
theorem Stars.tail {p : HP} {l : List HP} {H : PH} (h : Stars (p :: l) H) : Stars l H := by
  obtain ⟨h1, h2, _, _, s2, _, hl⟩ := h; exact hl.mono s2
def un (a b : PH) : PH := fun k => match a k with | some o => some o | none => b k
theorem sub_un_left (a b : PH) : Sub a (un a b) := fun k o e => by simp [un, e]
theorem sub_un_right {a b : PH} (ap : Apart a b) : Sub b (un a b) := fun k o e => by
  rcases ap k with y | y
  · simp [un, y, e]
  · rw [e] at y; cases y
theorem un_sub {a b H : PH} (ha : Sub a H) (hb : Sub b H) : Sub (un a b) H := fun k o e => by
  cases x : a k with
  | none => simp [un, x] at e; exact hb k o e
  | some o' => simp [un, x] at e; subst e; exact ha k _ x
theorem apart_un {a b c : PH} (h1 : Apart a b) (h2 : Apart a c) : Apart a (un b c) := fun k => by
  rcases h1 k with e | e
  · exact .inl e
  · rcases h2 k with e' | e'
    · exact .inl e'
    · right; simp [un, e, e']
theorem Stars.swap {p q : HP} {l : List HP} {H : PH} (h : Stars (p :: q :: l) H) : Stars (q :: p :: l) H := by
  obtain ⟨h1, h2, ap, s1, s2, hp, k1, k2, ap', t1, t2, hq, hl⟩ := h
  exact ⟨k1, un h1 k2, apart_un (ap.sub (Sub.refl _) t1).symm ap', t1.trans s2, un_sub s1 (t2.trans s2), hq,
    h1, k2, ap.sub (Sub.refl _) t2, sub_un_left _ _, sub_un_right (ap.sub (Sub.refl _) t2), hp, hl⟩
theorem Stars.perm {l l' : List HP} (p : l.Perm l') : ∀ {H : PH}, Stars l H → Stars l' H := by
  induction p with
  | nil => exact fun h => h
  | cons x _ ih => rintro H ⟨h1, h2, ap, s1, s2, hp, hl⟩; exact ⟨h1, h2, ap, s1, s2, hp, ih hl⟩
  | swap x y l => exact fun h => h.swap
  | trans _ _ ih1 ih2 => exact fun h => ih2 (ih1 h)
theorem Stars.app {l l' : List HP} {H : PH} (h : Stars (l ++ l') H) : ∃ h1 h2 : PH, Apart h1 h2 ∧ Sub h1 H ∧ Sub h2 H ∧ Stars l h1 ∧ Stars l' h2 := by
  induction l generalizing H with
  | nil => exact ⟨fun _ => none, H, fun _ => .inl rfl, (fun _ _ e => by cases e), Sub.refl _, trivial, h⟩
  | cons p l ih =>
    obtain ⟨h1, h2, ap, s1, s2, hp, hl⟩ := h
    obtain ⟨k1, k2, ap', t1, t2, hl1, hl2⟩ := ih hl
    exact ⟨un h1 k1, k2, (apart_un (ap.sub (Sub.refl _) t2).symm ap'.symm).symm, un_sub s1 (t1.trans s2), t2.trans s2,
      ⟨h1, k1, ap.sub (Sub.refl _) t1, sub_un_left _ _, sub_un_right (ap.sub (Sub.refl _) t1), hp, hl1⟩, hl2⟩
theorem Stars.unapp {l l' : List HP} {H h1 h2 : PH} (ap : Apart h1 h2) (s1 : Sub h1 H) (s2 : Sub h2 H) (a : Stars l h1) (b : Stars l' h2) : Stars (l ++ l') H := by
  induction l generalizing H h1 h2 with
  | nil => exact b.mono s2
  | cons p l ih =>
    obtain ⟨k1, k2, ap', t1, t2, hp, hl⟩ := a
    exact ⟨k1, un k2 h2, apart_un ap' (ap.sub t1 (Sub.refl _)), t1.trans s1, un_sub (t2.trans s1) s2, hp,
      ih (ap.sub t2 (Sub.refl _)) (sub_un_left _ _) (sub_un_right (ap.sub t2 (Sub.refl _))) hl b⟩
theorem Stars.left {l l' : List HP} {H : PH} (h : Stars (l ++ l') H) : Stars l H := by
  obtain ⟨h1, h2, _, s1, _, a, _⟩ := h.app; exact a.mono s1
theorem Stars.right {l l' : List HP} {H : PH} (h : Stars (l ++ l') H) : Stars l' H := by
  obtain ⟨h1, h2, _, _, s2, _, b⟩ := h.app; exact b.mono s2
theorem Stars.open {ps l : List HP} {H : PH} (h : Stars (big ps :: l) H) : Stars (ps ++ l) H := by
  obtain ⟨h1, h2, ap, s1, s2, hp, hl⟩ := h; exact Stars.unapp ap s1 s2 hp hl
theorem Stars.shut {ps l : List HP} {H : PH} (h : Stars (ps ++ l) H) : Stars (big ps :: l) H := by
  obtain ⟨h1, h2, ap, s1, s2, hp, hl⟩ := h.app; exact ⟨h1, h2, ap, s1, s2, hp, hl⟩
theorem Stars.weak {p q : HP} {l : List HP} {H : PH} (h : Stars (p :: l) H) (k : ∀ h, p h → q h) : Stars (q :: l) H := by
  obtain ⟨h1, h2, ap, s1, s2, hp, hl⟩ := h; exact ⟨h1, h2, ap, s1, s2, k _ hp, hl⟩
theorem Stars.get {b : Nat} {o : Obj} {l : List HP} {H : PH} (h : Stars (pt b o :: l) H) : H b = some o := by
  obtain ⟨h1, _, _, s1, _, hp, _⟩ := h; exact s1 _ _ hp
theorem Stars.mem {p : HP} {l : List HP} {H : PH} (h : Stars l H) (m : p ∈ l) : ∃ h1, Sub h1 H ∧ p h1 := by
  induction l generalizing H with
  | nil => cases m
  | cons q l ih =>
    rcases List.mem_cons.1 m with rfl | m
    · obtain ⟨h1, _, _, s1, _, hp, _⟩ := h; exact ⟨h1, s1, hp⟩
    · obtain ⟨h1, s1, hp⟩ := ih h.tail m; exact ⟨h1, s1, hp⟩
theorem Stars.at {b : Nat} {o : Obj} {l : List HP} {H : PH} (h : Stars l H) (m : pt b o ∈ l) : H b = some o := by
  obtain ⟨h1, s1, hp⟩ := h.mem m; exact s1 _ _ hp
def upd (H : PH) (b : Nat) (o : Obj) : PH := fun k => if k = b then some o else H k
theorem Stars.set {b : Nat} {o : Obj} {l : List HP} {H : PH} (h : Stars (pt b o :: l) H) (o' : Obj) : Stars (pt b o' :: l) (upd H b o') := by
  obtain ⟨h1, h2, ap, s1, s2, hp, hl⟩ := h
  have hn : h2 b = none := by
    rcases ap b with e | e
    · rw [show h1 b = some o from hp] at e; cases e
    · exact e
  refine ⟨fun k => if k = b then some o' else none, h2, ?_, ?_, ?_, by simp [pt], hl⟩
  · intro k
    by_cases e : k = b
    · subst e; exact .inr hn
    · left; simp [e]
  · intro k x e
    by_cases y : k = b
    · subst y; simpa [upd] using e
    · simp [y] at e
  · intro k x e
    by_cases y : k = b
    · subst y; rw [hn] at e; cases e
    · simp [upd, y]; exact s2 k x e
theorem Stars.new {b : Nat} {l : List HP} {H : PH} (h : Stars l H) (hb : H b = none) (o : Obj) : Stars (pt b o :: l) (upd H b o) := by
  refine ⟨fun k => if k = b then some o else none, H, ?_, ?_, ?_, by simp [pt], h⟩
  · intro k
    by_cases e : k = b
    · subst e; exact .inr hb
    · left; simp [e]
  · intro k x e
    by_cases y : k = b
    · subst y; simpa [upd] using e
    · simp [y] at e
  · intro k x e
    by_cases y : k = b
    · subst y; rw [hb] at e; cases e
    · simp [upd, y]; exact e
def Low (W : World) : HP := fun h => ∀ b, b < W.heap.size → h b = W.heap[b]?
theorem Low.self (W : World) : Low W (fun k => W.heap[k]?) := fun _ _ => rfl
theorem Stars.low {W : World} {l : List HP} {H : PH} (h : Stars l H) (m : Low W ∈ l) {b : Nat} (hb : b < W.heap.size) : H b = W.heap[b]? := by
  obtain ⟨h1, s1, hp⟩ := h.mem m
  have := hp b hb
  rw [Array.getElem?_eq_getElem hb] at this ⊢
  exact s1 _ _ this
def pick1 {α : Type} : List α → Nat → Option (α × List α)
  | [], _ => none
  | x :: l, 0 => some (x, l)
  | x :: l, i + 1 => match pick1 l i with
    | some (y, r) => some (y, x :: r)
    | none => none
theorem pick1_perm {α : Type} {l : List α} {i : Nat} {x : α} {r : List α} (h : pick1 l i = some (x, r)) : l.Perm (x :: r) := by
  induction l generalizing i r with
  | nil => simp [pick1] at h
  | cons y l ih =>
    cases i with
    | zero => simp [pick1] at h; obtain ⟨rfl, rfl⟩ := h; exact List.Perm.refl _
    | succ i =>
      simp only [pick1] at h
      cases e : pick1 l i with
      | none => simp [e] at h
      | some p =>
        obtain ⟨z, r'⟩ := p
        simp [e] at h
        obtain ⟨rfl, rfl⟩ := h
        exact ((ih e).cons y).trans (List.Perm.swap _ _ _)
def picks {α : Type} : List α → List Nat → Option (List α × List α)
  | l, [] => some ([], l)
  | l, i :: is => match pick1 l i with
    | some (x, r) => match picks r is with
      | some (xs, r') => some (x :: xs, r')
      | none => none
    | none => none
theorem picks_perm {α : Type} {is : List Nat} : ∀ {l xs r : List α}, picks l is = some (xs, r) → l.Perm (xs ++ r) := by
  induction is with
  | nil => intro l xs r h; simp [picks] at h; obtain ⟨rfl, rfl⟩ := h; exact List.Perm.refl _
  | cons i is ih =>
    intro l xs r h
    simp only [picks] at h
    cases e : pick1 l i with
    | none => simp [e] at h
    | some p =>
      obtain ⟨x, r1⟩ := p
      simp only [e] at h
      cases e2 : picks r1 is with
      | none => simp [e2] at h
      | some q =>
        obtain ⟨xs', r'⟩ := q
        simp [e2] at h
        obtain ⟨rfl, rfl⟩ := h
        exact (pick1_perm e).trans ((ih e2).cons x)
def hp (w : World) : PH := fun k => w.heap[k]?
structure Sat (W : World) (l : List HP) (w : World) : Prop where
  os : w.os = W.os
  tape : w.tape = W.tape
  output : w.output = W.output
  stars : Stars l (hp w)
theorem Sat.perm {W w : World} {l l' : List HP} (h : Sat W l w) (p : l.Perm l') : Sat W l' w := ⟨h.os, h.tape, h.output, h.stars.perm p⟩
theorem Sat.to {W w : World} {l l' : List HP} (h : Sat W l w) (k : ∀ H, Stars l H → Stars l' H) : Sat W l' w := ⟨h.os, h.tape, h.output, k _ h.stars⟩
theorem Sat.drawn {W w : World} {l : List HP} (h : Sat W l w) (n : Nat) : Sat W l { w with drawn := n } := ⟨h.os, h.tape, h.output, h.stars⟩
theorem hp_alloc (w : World) (o : Obj) : hp (w.alloc o) = upd (hp w) w.heap.size o := by
  funext k
  show (w.heap.push o)[k]? = _
  rw [Array.getElem?_push]
  simp [upd, hp]
theorem hp_new (w : World) : hp w w.heap.size = none := by simp [hp]
theorem Sat.alloc {W w : World} {l : List HP} (h : Sat W l w) (o : Obj) : Sat W (pt w.heap.size o :: l) (w.alloc o) :=
  ⟨h.os, h.tape, h.output, by rw [hp_alloc]; exact h.stars.new (hp_new w) o⟩
theorem hp_setCell {w : World} {b off : Nat} {cs : Array Value} {t : TypeId} {f : Nat × Nat} (hb : w.heap[b]? = some (.cells cs t f)) (v : Value) :
    hp (w.setCell ⟨b, off, none⟩ v) = upd (hp w) b (.cells (cs.setIfInBounds off v) t f) := by
  funext k
  show (w.heap.modify b _)[k]? = _
  rw [Array.getElem?_modify]
  by_cases e : b = k
  · subst e; simp [upd, hb]
  · have e' : ¬ k = b := fun h => e h.symm
    simp [upd, hp, e, e']
theorem Sat.setCell {W w : World} {l : List HP} {b off : Nat} {cs : Array Value} {t : TypeId} {f : Nat × Nat} (h : Sat W (pt b (.cells cs t f) :: l) w) (v : Value) :
    Sat W (pt b (.cells (cs.setIfInBounds off v) t f) :: l) (w.setCell ⟨b, off, none⟩ v) :=
  ⟨h.os, h.tape, h.output, by rw [hp_setCell (h.stars.get) v]; exact h.stars.set _⟩
theorem Sat.setObj {W w : World} {l : List HP} {b : Nat} {o : Obj} (h : Sat W (pt b o :: l) w) (o' : Obj) :
    Sat W (pt b o' :: l) { w with heap := w.heap.setIfInBounds b o' } := by
  refine ⟨h.os, h.tape, h.output, ?_⟩
  have hb : w.heap[b]? = some o := h.stars.get
  have : hp { w with heap := w.heap.setIfInBounds b o' } = upd (hp w) b o' := by
    funext k
    show (w.heap.setIfInBounds b o')[k]? = _
    by_cases e : b = k
    · subst e
      have hlt := (Array.getElem?_eq_some_iff.1 hb).1
      simp [upd, hlt]
    · have e' : ¬ k = b := fun h => e h.symm
      simp [upd, hp, e', Array.getElem?_setIfInBounds_ne e]
  rw [this]; exact h.stars.set _
theorem Sat.at {W w : World} {l : List HP} {b : Nat} {o : Obj} (h : Sat W l w) (m : pt b o ∈ l) : w.heap[b]? = some o := h.stars.at m
theorem Sat.low {W W' w : World} {l : List HP} (h : Sat W l w) (m : Low W' ∈ l) {b : Nat} (hb : b < W'.heap.size) : w.heap[b]? = W'.heap[b]? := h.stars.low m hb
theorem Sat.below {W w : World} {l : List HP} (h : Sat W l w) (m : Low W ∈ l) : RowKit.Below W.heap.size W w := by
  refine ⟨h.os, h.tape, h.output, ?_, fun k hk => h.low m hk⟩
  rcases Nat.lt_or_ge w.heap.size W.heap.size with hlt | hge
  · have := h.low m hlt
    rw [Array.getElem?_eq_getElem hlt] at this
    simp at this
  · exact hge
theorem Sat.start (W : World) : Sat W [Low W] W :=
  ⟨rfl, rfl, rfl, fun k => W.heap[k]?, fun _ => none, fun _ => .inr rfl, Sub.refl _, (fun _ _ e => by cases e), Low.self W, trivial⟩
open Go.RowKit
def look {α : Type} : List (Nat × α) → Nat → Option α
  | [], _ => none
  | (k, v) :: l, t => bif Nat.beq k t then some v else look l t
inductive TD where
  | bool | int (k : IntKind) | ptr (e : Nat) | slice (e : Nat) | array (n e : Nat) | struct (fs : List (Nat × Nat)) | func | iface (n : Nat) | map (k e : Nat) | other
def tdOf : TypeDesc → TD
  | .bool => .bool
  | .int k => .int k
  | .pointer e => .ptr e
  | .slice e => .slice e
  | .array n e => .array n e
  | .struct fs => .struct (fs.toList.map fun f => (f.offset, f.type))
  | .func _ _ _ => .func
  | .interface ms => .iface ms.size
  | .map k e => .map k e
  | _ => .other
structure TyI where
  d : TD
  size : Nat
  bytes : Nat
  zero : List Value
def tyView (P : Program) (t : Nat) : Option TyI :=
  match P.info? t, P.underlying t with
  | some i, some d => i.zero.map fun z => { d := tdOf d, size := i.size, bytes := i.bytes, zero := z.cells.toList }
  | _, _ => none
abbrev TIs := List (Nat × TyI)
def TIok (P : Program) : TIs → Prop
  | [] => True
  | (t, i) :: r => tyView P t = some i ∧ TIok P r
theorem TIok.look {P : Program} {ti : TIs} {t : Nat} {i : TyI} (h : TIok P ti) (e : look ti t = some i) : tyView P t = some i := by
  induction ti with
  | nil => cases e
  | cons p r ih =>
    obtain ⟨k, v⟩ := p
    simp only [Sep.look] at e
    cases b : Nat.beq k t with
    | true =>
      simp only [b, cond_true] at e
      have := Nat.eq_of_beq_eq_true b
      subst this
      injection e with e
      exact e ▸ h.1
    | false => simp only [b, cond_false] at e; exact ih h.2 e
theorem tyView_parts {P : Program} {t : Nat} {i : TyI} (h : tyView P t = some i) :
    ∃ (f : TypeInfo) (d : TypeDesc) (z : Value), P.info? t = some f ∧ P.underlying t = some d ∧ f.zero = some z ∧ tdOf d = i.d ∧ f.size = i.size ∧ f.bytes = i.bytes ∧ z.cells.toList = i.zero := by
  unfold tyView at h
  split at h
  · rename_i f d hf hd
    obtain ⟨z, hz, e⟩ := Option.map_eq_some_iff.1 h
    subst e
    exact ⟨f, d, z, hf, hd, hz, rfl, rfl, rfl, rfl⟩
  · cases h
def TD.isAgg : TD → Bool
  | .struct _ => true
  | .array _ _ => true
  | _ => false
section runs
variable {P : Program} {t : Nat} {i : TyI} (w : World)
theorem run_typeInfo {f : TypeInfo} (h : P.info? t = some f) : (typeInfo t).run P w = .ok f w := by
  simp [typeInfo, program, Bind.bind, Pure.pure, Sem.bind, Sem.run, h]
theorem run_sizeOf (h : tyView P t = some i) : (sizeOf t).run P w = .ok i.size w := by
  obtain ⟨f, d, z, hf, hd, hz, e1, e2, e3, e4⟩ := tyView_parts h
  simp [sizeOf, Sem.run_bind, run_typeInfo w hf, Result.andThen, e2, Pure.pure]
theorem run_isAgg (h : tyView P t = some i) : (isAgg t).run P w = .ok i.d.isAgg w := by
  obtain ⟨f, d, z, hf, hd, hz, e1, e2, e3, e4⟩ := tyView_parts h
  simp only [isAgg, Sem.run_bind, run_underlying hd w, Result.andThen]
  cases d <;> simp [Pure.pure, Sem.run, ← e1, tdOf, TD.isAgg]
theorem run_zero (h : tyView P t = some i) : ∃ z : Value, (zeroValue t).run P w = .ok z w ∧ z.cells.toList = i.zero := by
  obtain ⟨f, d, z, hf, hd, hz, e1, e2, e3, e4⟩ := tyView_parts h
  refine ⟨z, ?_, e4⟩
  simp [zeroValue, Sem.run_bind, run_typeInfo w hf, Result.andThen, hz, Pure.pure, Sem.run]
theorem run_bytes (h : tyView P t = some i) : ∃ f, (typeInfo t).run P w = .ok f w ∧ f.bytes = i.bytes := by
  obtain ⟨f, d, z, hf, hd, hz, e1, e2, e3, e4⟩ := tyView_parts h
  exact ⟨f, run_typeInfo w hf, e3⟩
theorem und_slice {e : Nat} (h : tyView P t = some i) (hd : i.d = .slice e) : P.underlying t = some (.slice e) := by
  obtain ⟨f, d, z, hf, hu, hz, e1, e2, e3, e4⟩ := tyView_parts h
  rw [hd] at e1
  cases d <;> simp [tdOf] at e1
  subst e1; exact hu
theorem und_array {n e : Nat} (h : tyView P t = some i) (hd : i.d = .array n e) : P.underlying t = some (.array n e) := by
  obtain ⟨f, d, z, hf, hu, hz, e1, e2, e3, e4⟩ := tyView_parts h
  rw [hd] at e1
  cases d <;> simp [tdOf] at e1
  obtain ⟨rfl, rfl⟩ := e1; exact hu
theorem und_struct {fs : List (Nat × Nat)} (h : tyView P t = some i) (hd : i.d = .struct fs) : ∃ gs : Array Field, P.underlying t = some (.struct gs) ∧ gs.toList.map (fun f => (f.offset, f.type)) = fs := by
  obtain ⟨f, d, z, hf, hu, hz, e1, e2, e3, e4⟩ := tyView_parts h
  rw [hd] at e1
  cases d <;> simp [tdOf] at e1
  exact ⟨_, hu, e1⟩
theorem und_int {k : IntKind} (h : tyView P t = some i) (hd : i.d = .int k) : P.underlying t = some (.int k) := by
  obtain ⟨f, d, z, hf, hu, hz, e1, e2, e3, e4⟩ := tyView_parts h
  rw [hd] at e1
  cases d <;> simp [tdOf] at e1
  subst e1; exact hu
theorem und_bool (h : tyView P t = some i) (hd : i.d = .bool) : P.underlying t = some .bool := by
  obtain ⟨f, d, z, hf, hu, hz, e1, e2, e3, e4⟩ := tyView_parts h
  rw [hd] at e1
  cases d <;> simp [tdOf] at e1
  exact hu
end runs
structure Ctx where
  P : Program
  ti : TIs
  ok : TIok P ti
  r : Option Nat
  N : Nat
  D : List Deferred
  W : World
  fr : List HP
def FR (r : Option Nat) : Fence := { fn := fun _ => True, depth := none, alive := false, round := r }
abbrev Regs := List (Nat × Value)
def Fits (C : Ctx) (g : Regs) (a : Act) : Prop := a.defers = C.D ∧ a.tmps.size = C.N ∧ ∀ t v, look g t = some v → a.tmps.getD t undef = v
theorem Fits.put {C : Ctx} {g : Regs} {a : Act} {d : Nat} {v : Value} (h : Fits C g a) (hd : Nat.blt d C.N = true) : Fits C ((d, v) :: g) (a.put (some d) v) := by
  obtain ⟨h1, h2, h3⟩ := h
  refine ⟨h1, by simp [Act.put, h2], fun t u e => ?_⟩
  have hlt : d < a.tmps.size := by rw [h2]; exact (Nat.blt_eq ▸ hd)
  simp only [look] at e
  cases b : Nat.beq d t with
  | true =>
    simp only [b, cond_true] at e
    have := Nat.eq_of_beq_eq_true b
    subst this
    injection e with e
    subst e
    simp [Act.put, hlt]
  | false =>
    simp only [b, cond_false] at e
    have hne : d ≠ t := fun x => by subst x; simp at b
    have := h3 t u e
    simpa [Act.put, Array.getElem?_setIfInBounds_ne hne] using this
def ev (g : Regs) : Operand → Option Value
  | .tmp t => look g t
  | .const v => some v
  | .global n => some (.pointer (some ⟨n, 0, none⟩))
  | .func f => some (.func (.func f) #[] #[])
theorem Fits.ev {C : Ctx} {g : Regs} {a : Act} {x : Operand} {v : Value} (h : Fits C g a) (e : ev g x = some v) : a.eval x = v := by
  cases x with
  | tmp t => exact h.2.2 t v e
  | const u => simp [Sep.ev] at e; subst e; rfl
  | global n => simp [Sep.ev] at e; subst e; rfl
  | func f => simp [Sep.ev] at e; subst e; rfl
def evs (g : Regs) : List Operand → Option (List Value)
  | [] => some []
  | x :: xs => match ev g x, evs g xs with
    | some v, some vs => some (v :: vs)
    | _, _ => none
theorem Fits.evs {C : Ctx} {g : Regs} {a : Act} (h : Fits C g a) : ∀ {xs : List Operand} {vs : List Value}, evs g xs = some vs → xs.map a.eval = vs := by
  intro xs
  induction xs with
  | nil => intro vs e; simp [Sep.evs] at e; subst e; rfl
  | cons x xs ih =>
    intro vs e
    simp only [Sep.evs] at e
    split at e
    · rename_i v us h1 h2
      injection e with e
      subst e
      simp [h.ev h1, ih h2]
    · cases e
def SubG : Regs → Regs → Prop
  | [], _ => True
  | (t, v) :: r, g => look g t = some v ∧ SubG r g
theorem SubG.look {g' g : Regs} (h : SubG g' g) {t : Nat} {v : Value} (e : look g' t = some v) : look g t = some v := by
  induction g' with
  | nil => cases e
  | cons p r ih =>
    obtain ⟨k, u⟩ := p
    simp only [Sep.look] at e
    cases b : Nat.beq k t with
    | true =>
      simp only [b, cond_true] at e
      have := Nat.eq_of_beq_eq_true b
      subst this
      exact h.1.trans e
    | false => simp only [b, cond_false] at e; exact ih h.2 e
theorem Fits.sub {C : Ctx} {g g' : Regs} {a : Act} (h : Fits C g a) (s : SubG g' g) : Fits C g' a := ⟨h.1, h.2.1, fun t v e => h.2.2 t v (s.look e)⟩
def fieldOff (ti : TIs) (s f : Nat) : Option Nat :=
  match look ti s with
  | some ⟨.struct fs, _, _, _⟩ => match fs[f]? with
    | some (off, ft) => match look ti ft with
      | some ⟨_, sz, _, _⟩ => bif Nat.beq sz 0 then none else some off
      | none => none
    | none => none
  | _ => none
def sizeAt (ti : TIs) (t : Nat) : Option Nat :=
  match look ti t with
  | some ⟨_, sz, _, _⟩ => some sz
  | none => none
def aggAt (ti : TIs) (t : Nat) : Option Bool :=
  match look ti t with
  | some ⟨d, _, _, _⟩ => some d.isAgg
  | none => none
def takeL : List Value → Nat → Nat → Option (List Value)
  | _, _, 0 => some []
  | cs, o, n + 1 => match cs[o]?, takeL cs (o + 1) n with
    | some v, some vs => some (v :: vs)
    | _, _ => none
def binV (op : BinOp) (x y : Value) : Option Value :=
  match op, x, y with
  | .add, .int .i64 a, .int .i64 b => some (.int .i64 (IntKind.wrap .i64 (a + b)))
  | .sub, .int .i64 a, .int .i64 b => some (.int .i64 (IntKind.wrap .i64 (a - b)))
  | .mul, .int .i64 a, .int .i64 b => some (.int .i64 (IntKind.wrap .i64 (a * b)))
  | .lss, .int .i64 a, .int .i64 b => some (.bool (decide (a < b)))
  | .leq, .int .i64 a, .int .i64 b => some (.bool (decide (a ≤ b)))
  | .gtr, .int .i64 a, .int .i64 b => some (.bool (decide (b < a)))
  | .geq, .int .i64 a, .int .i64 b => some (.bool (decide (b ≤ a)))
  | .eql, .int .i64 a, .int .i64 b => some (.bool (decide (a = b)))
  | .neq, .int .i64 a, .int .i64 b => some (.bool (!decide (a = b)))
  | .lss, .int .u8 a, .int .u8 b => some (.bool (decide (a < b)))
  | .leq, .int .u8 a, .int .u8 b => some (.bool (decide (a ≤ b)))
  | .gtr, .int .u8 a, .int .u8 b => some (.bool (decide (b < a)))
  | .geq, .int .u8 a, .int .u8 b => some (.bool (decide (b ≤ a)))
  | .eql, .int .u8 a, .int .u8 b => some (.bool (decide (a = b)))
  | .neq, .int .u8 a, .int .u8 b => some (.bool (!decide (a = b)))
  | .lss, .int .u64 a, .int .u64 b => some (.bool (decide (a < b)))
  | .eql, .int .u64 a, .int .u64 b => some (.bool (decide (a = b)))
  | .neq, .int .u64 a, .int .u64 b => some (.bool (!decide (a = b)))
  | .add, .int .u8 a, .int .u8 b => some (.int .u8 (IntKind.wrap .u8 (a + b)))
  | .sub, .int .u64 a, .int .u64 b => some (.int .u64 (IntKind.wrap .u64 (a - b)))
  | .and, .int k a, .int k' b => if k = k' then some (.int k (k.wrap ((BitVec.ofInt k.bits a &&& BitVec.ofInt k.bits b).toNat))) else none
  | .or, .int k a, .int k' b => if k = k' then some (.int k (k.wrap ((BitVec.ofInt k.bits a ||| BitVec.ofInt k.bits b).toNat))) else none
  | .andNot, .int k a, .int k' b => if k = k' then some (.int k (k.wrap ((BitVec.ofInt k.bits a &&& ~~~ BitVec.ofInt k.bits b).toNat))) else none
  | _, _, _ => none
theorem eqGuard_int {op : BinOp} {t : Nat} {ox oy : Operand} {k k' : IntKind} {a b : Int} : eqGuard op t ox oy (.int k a) (.int k' b) = Pure.pure () := by
  unfold eqGuard
  cases op <;> rfl
theorem run_guarded {P : Program} {w : World} {op : BinOp} {t : Nat} {ox oy : Operand} {k k' : IntKind} {a b : Int} {v : Value} (h : (binOp op t (.int k a) (.int k' b)).run P w = .ok v w) :
    (do eqGuard op t ox oy (.int k a) (.int k' b); binOp op t (.int k a) (.int k' b) : Sem Value).run P w = .ok v w := by
  rw [eqGuard_int]; exact h
theorem binV_run {P : Program} {w : World} {op : BinOp} {t : Nat} {ox oy : Operand} {x y v : Value} (h : binV op x y = some v) :
    (do eqGuard op t ox oy x y; binOp op t x y : Sem Value).run P w = .ok v w := by
  unfold binV at h
  split at h
  case h_21 => split at h
               · rename_i e; subst e; injection h with h; subst h; exact run_guarded (by simp [binOp, Op.intBits, Pure.pure, Sem.run])
               · cases h
  case h_22 => split at h
               · rename_i e; subst e; injection h with h; subst h; exact run_guarded (by simp [binOp, Op.intBits, Pure.pure, Sem.run])
               · cases h
  case h_23 => split at h
               · rename_i e; subst e; injection h with h; subst h; exact run_guarded (by simp [binOp, Op.intBits, Pure.pure, Sem.run])
               · cases h
  case h_24 => cases h
  all_goals
    injection h with h; subst h
    refine run_guarded ?_
    first
      | rfl
      | (simp only [binOp, Op.intCmp, ne_eq, not_true_eq_false, if_false]; rfl)
      | (simp [binOp, Op.intCmp, Pure.pure, Sem.run]; done)
open Go.RowKit
def nilV : Value → Option Value
  | .pointer (some p) => some (.pointer (some p))
  | .func (.func f) u v => some (.func (.func f) u v)
  | .func (.yield l) u v => some (.func (.yield l) u v)
  | _ => none
def lenV (ti : TIs) (t : Nat) : Value → Option Value
  | .slice _ n _ => match look ti t with
    | some ⟨.slice _, _, _, _⟩ => some (.int .i64 n)
    | _ => none
  | _ => none
def minV : Value → Value → Option Value
  | .int .i64 x, .int .i64 y => some (.int .i64 (if y < x then y else x))
  | _, _ => none
def maxV : Value → Value → Option Value
  | .int .i64 x, .int .i64 y => some (.int .i64 (if x < y then y else x))
  | _, _ => none
def fieldV (ti : TIs) (s f : Nat) : Value → Option Value
  | .agg cs => match look ti s with
    | some ⟨.struct fs, _, _, _⟩ => match fs[f]? with
      | some (off, ft) => match look ti ft with
        | some ⟨d, sz, _, _⟩ => bif d.isAgg then some (.agg (cs.extract off (off + sz))) else cs.toList[off]?
        | none => none
      | none => none
    | _ => none
  | _ => none
def builtinV (ti : TIs) : Builtin → List Operand → List Nat → Regs → Option Value
  | .len, [x], [t], g => match ev g x with
    | some v => lenV ti t v
    | none => none
  | .min, [x, y], _, g => match ev g x, ev g y with
    | some a, some b => minV a b
    | _, _ => none
  | .max, [x, y], _, g => match ev g x, ev g y with
    | some a, some b => maxV a b
    | _, _ => none
  | _, _, _, _ => none
def pureOp (ti : TIs) (g : Regs) : Op → Option Value
  | .move x => ev g x
  | .assign x => ev g x
  | .pick c a b => match ev g c with
    | some (.bool true) => ev g a
    | some (.bool false) => ev g b
    | _ => none
  | .nilCheck x => match ev g x with
    | some v => nilV v
    | none => none
  | .fieldAddr s x f => match ev g x, fieldOff ti s f with
    | some (.pointer (some ⟨b, o, none⟩)), some d => some (.pointer (some ⟨b, o + d, none⟩))
    | _, _ => none
  | .field s x f => match ev g x with
    | some v => fieldV ti s f v
    | none => none
  | .extract x i => match ev g x with
    | some (.tuple vs) => vs.toList[i]?
    | _ => none
  | .unOp .not _ x => match ev g x with
    | some (.bool b) => some (.bool (!b))
    | _ => none
  | .unOp .neg _ x => match ev g x with
    | some (.int .i64 n) => some (.int .i64 (IntKind.wrap .i64 (0 - n)))
    | _ => none
  | .binOp op _ x y _ => match ev g x, ev g y with
    | some a, some b => binV op a b
    | _, _ => none
  | .convert s d x => match look ti s, look ti d, ev g x with
    | some _, some ⟨.int k, _, _, _⟩, some (.int _ n) => some (.int k (k.wrap n))
    | _, _, _ => none
  | .makeFunc fn a b => match evs g a.toList, evs g b.toList with
    | some u, some v => some (.func fn u.toArray v.toArray)
    | _, _ => none
  | .call { callee := .builtin b, args := xs, argTypes := ts } => builtinV ti b xs.toList ts.toList g
  | _ => none
def OpV (C : Ctx) (g : Regs) (o : Op) (v : Value) : Prop :=
  (∀ c, o ≠ .defer c) ∧ ∀ (d : Option Tmp) (ty : TypeId) (pos : String) (af : Array Edge) (gd : Option (Nat × Bool)) (a : Act) (w : World), Fits C g a →
    (execOp a.eval ⟨d, o, ty, pos, af, gd⟩).run C.P w = .ok (.value v) w
theorem addr_add (b o d : Nat) : (Addr.add ⟨b, o, none⟩ d) = ⟨b, o + d, none⟩ := by
  unfold Addr.add
  split
  · rename_i h; subst h; rfl
  · rfl
theorem run_fieldAt {C : Ctx} {s f b o d : Nat} (h : fieldOff C.ti s f = some d) (w : World) :
    (Instr.fieldAt s (.pointer (some ⟨b, o, none⟩)) f).run C.P w = .ok (.pointer (some ⟨b, o + d, none⟩)) w := by
  unfold fieldOff at h
  split at h
  · rename_i fs sz by_ z hl
    split at h
    · rename_i off ft hft
      split at h
      · rename_i d' sz' by' z' hl'
        obtain ⟨gs, hu, hgs⟩ := und_struct (C.ok.look hl) rfl
        have hs := run_sizeOf (P := C.P) w (C.ok.look hl')
        cases hz : Nat.beq sz' 0 with
        | true => simp [hz] at h
        | false =>
          simp only [hz, cond_false] at h
          injection h with h
          subst h
          have hne : sz' ≠ 0 := fun e => by subst e; simp at hz
          rw [← hgs, List.getElem?_map] at hft
          obtain ⟨fl, hfl, he⟩ := Option.map_eq_some_iff.1 hft
          injection he with h1 h2
          subst h1 h2
          have hfl' : gs[f]? = some fl := by simpa using hfl
          simp [Instr.fieldAt, Sem.run_bind, run_underlying hu w, Result.andThen, hfl', Instr.sureAddr, Pure.pure, fieldPlace, hs, hne, addr_add]
      · cases h
    · cases h
  · cases h
theorem run_fieldV {C : Ctx} {s f : Nat} {x v : Value} (h : fieldV C.ti s f x = some v) (w : World) : (Instr.field s x f).run C.P w = .ok v w := by
  unfold fieldV at h
  split at h
  · rename_i cs
    split at h
    · rename_i fs sz by_ z hl
      split at h
      · rename_i off ft hft
        split at h
        · rename_i d' sz' by' z' hl'
          obtain ⟨gs, hu, hgs⟩ := und_struct (C.ok.look hl) rfl
          have hs := run_sizeOf (P := C.P) w (C.ok.look hl')
          have ha := run_isAgg (P := C.P) w (C.ok.look hl')
          rw [← hgs, List.getElem?_map] at hft
          obtain ⟨fl, hfl, he⟩ := Option.map_eq_some_iff.1 hft
          injection he with h1 h2
          subst h1 h2
          have hfl' : gs[f]? = some fl := by simpa using hfl
          cases hz : d'.isAgg with
          | true =>
            simp only [hz, cond_true] at h
            injection h with h
            subst h
            simp only at hs ha
            rw [hz] at ha
            simp [Instr.field, Sem.run_bind, run_underlying hu w, Result.andThen, hfl', part, ha, hs, asAgg, Pure.pure]
          | false =>
            simp only [hz, cond_false] at h
            simp only at hs ha
            rw [hz] at ha
            have h' : cs[fl.offset]? = some v := by simpa using h
            simp [Instr.field, Sem.run_bind, run_underlying hu w, Result.andThen, hfl', part, ha, asAgg, h', Pure.pure]
        · cases h
      · cases h
    · cases h
  · cases h
theorem run_builtin_of {P : Program} {ρ : Operand → Value} {b : Builtin} {xs : Array Operand} {ts : Array TypeId} {w w' : World} {d : Option Tmp} {ty : TypeId} {pos : String} {af : Array Edge} {gd : Option (Nat × Bool)} {n : Next}
    (h : (builtin b ts ty (xs.map fun | .const _ => true | _ => false) (xs.map ρ)).run P w = .ok n w') :
    (execOp ρ ⟨d, .call { callee := .builtin b, args := xs, argTypes := ts }, ty, pos, af, gd⟩).run P w = .ok n w' := by
  simp only [execOp, resolve, Sem.run_bind, Pure.pure, Sem.run, Result.andThen, invoke]
  exact h
theorem arr_of {α β : Type} {xs : Array α} {f : α → β} {u : List β} (h : xs.toList.map f = u) : xs.map f = u.toArray := by
  subst h
  apply Array.ext'
  simp
theorem run_lenV {C : Ctx} {t : Nat} {x v : Value} (h : lenV C.ti t x = some v) (w : World) {ty : TypeId} : (Builtin.len_ #[t] ty #[x]).run C.P w = .ok v w := by
  unfold lenV at h
  split at h
  · split at h
    · rename_i e _ _ _ hl
      injection h with h; subst h
      simp only [Builtin.len_, List.getElem?_toArray, List.getElem?_cons_zero, Sem.run_bind, run_underlying (und_slice (C.ok.look hl) rfl) w, Result.andThen]
      rfl
    · cases h
  · cases h
theorem run_minV {P : Program} {x y v : Value} (h : minV x y = some v) (w : World) {ts : Array TypeId} {ty : TypeId} : (Builtin.min_ ts ty #[x, y]).run P w = .ok v w := by
  unfold minV at h
  split at h
  · injection h with h; subst h; rfl
  · cases h
theorem run_maxV {P : Program} {x y v : Value} (h : maxV x y = some v) (w : World) {ts : Array TypeId} {ty : TypeId} : (Builtin.max_ ts ty #[x, y]).run P w = .ok v w := by
  unfold maxV at h
  split at h
  · injection h with h; subst h; rfl
  · cases h
theorem arr_lit {α : Type} {xs : Array α} {l : List α} (h : xs.toList = l) : xs = l.toArray := by
  subst h; simp
theorem builtinV_run {C : Ctx} {g : Regs} {a : Act} {b : Builtin} {xs : Array Operand} {ts : Array TypeId} {v : Value} {w : World} {ty : TypeId} {cs : Array Bool} (hf : Fits C g a)
    (h : builtinV C.ti b xs.toList ts.toList g = some v) : (builtin b ts ty cs (xs.map a.eval)).run C.P w = .ok (.value v) w := by
  unfold builtinV at h
  split at h
  · rename_i x t h1 h2
    rw [arr_lit h1, arr_lit h2]
    split at h
    · rename_i u hu
      simp only [builtin, List.map_toArray, List.map_cons, List.map_nil, hf.ev hu]
      rw [Sem.run_bind, run_lenV h]
      rfl
    · cases h
  · rename_i x y _ h1
    rw [arr_lit h1]
    split at h
    · rename_i u u' hu hu'
      simp only [builtin, List.map_toArray, List.map_cons, List.map_nil, hf.ev hu, hf.ev hu']
      rw [Sem.run_bind, run_minV h]
      rfl
    · cases h
  · rename_i x y _ h1
    rw [arr_lit h1]
    split at h
    · rename_i u u' hu hu'
      simp only [builtin, List.map_toArray, List.map_cons, List.map_nil, hf.ev hu, hf.ev hu']
      rw [Sem.run_bind, run_maxV h]
      rfl
    · cases h
  · cases h
theorem pureOp_sound {C : Ctx} {g : Regs} {o : Op} {v : Value} (h : pureOp C.ti g o = some v) : OpV C g o v := by
  refine ⟨?_, ?_⟩
  · rintro c rfl
    simp [pureOp] at h
  intro d ty pos af gd a w hf
  unfold pureOp at h
  split at h
  · simp [execOp, hf.ev h, Pure.pure, Sem.run]
  · simp [execOp, hf.ev h, Pure.pure, Sem.run]
  · split at h
    · rename_i h1; simp [execOp, hf.ev h1, hf.ev h, asBool, Sem.run_bind, Result.andThen, Pure.pure, Sem.run]
    · rename_i h1; simp [execOp, hf.ev h1, hf.ev h, asBool, Sem.run_bind, Result.andThen, Pure.pure, Sem.run]
    · cases h
  · split at h
    · rename_i u h1
      unfold nilV at h
      split at h
      · injection h with h; subst h; simp [execOp, hf.ev h1, Pure.pure, Sem.run]
      · injection h with h; subst h; simp [execOp, hf.ev h1, Pure.pure, Sem.run]
      · injection h with h; subst h; simp [execOp, hf.ev h1, Pure.pure, Sem.run]
      · cases h
    · cases h
  · split at h
    · rename_i b' o' d' h1 h2
      injection h with h; subst h
      simp only [execOp, hf.ev h1, Sem.run_bind, run_fieldAt h2 w, Result.andThen, Pure.pure, Sem.run]
    · cases h
  · split at h
    · rename_i u h1
      simp only [execOp, hf.ev h1, Sem.run_bind, run_fieldV h w, Result.andThen, Pure.pure, Sem.run]
    · cases h
  · split at h
    · rename_i vs h1
      have h' := h
      rw [Array.getElem?_toList] at h'
      simp [execOp, hf.ev h1, Instr.extract, h', Sem.run_bind, Result.andThen, Pure.pure, Sem.run]
    · cases h
  · split at h
    · rename_i b h1
      injection h with h; subst h
      simp [execOp, hf.ev h1, Op.unary, Sem.run_bind, Result.andThen, Pure.pure, Sem.run]
    · cases h
  · split at h
    · rename_i b h1
      injection h with h; subst h
      simp [execOp, hf.ev h1, Op.unary, Op.intArith, Sem.run_bind, Result.andThen, Pure.pure, Sem.run]
    · cases h
  · split at h
    · rename_i x y h1 h2
      have h3 := fun t ox oy => binV_run (P := C.P) (w := w) (t := t) (ox := ox) (oy := oy) h
      simp only [execOp, hf.ev h1, hf.ev h2]
      rw [Sem.run_bind, h3]
      rfl
    · cases h
  · split at h
    · rename_i i k sz by_ z k' n h1 h2 h3
      injection h with h; subst h
      obtain ⟨f, ds, z', _, hu, _⟩ := tyView_parts (C.ok.look h1)
      have hc : ∀ s t, C.P.underlying s = some ds → C.P.underlying t = some (.int k) → (convert s t (.int k' n)).run C.P w = .ok (.int k (k.wrap n)) w := fun s t hs ht => by
        simp only [convert, Sem.run_bind, run_underlying hs w, run_underlying ht w, Result.andThen]
        rfl
      simp only [execOp, hf.ev h3]
      rw [Sem.run_bind, hc _ _ hu (und_int (C.ok.look h2) rfl)]
      rfl
    · cases h
  · split at h
    · rename_i u u' h1 h2
      injection h with h; subst h
      have e1 := arr_of (hf.evs h1)
      have e2 := arr_of (hf.evs h2)
      simp only [execOp, e1, e2]
      rfl
    · cases h
  · refine run_builtin_of ?_
    exact builtinV_run hf h
  · cases h
open Go.RowKit
abbrev Post := Exit → Act → World → Prop
structure At (C : Ctx) (Q : Act → World → Prop) (g : Regs) (l : List HP) : Prop where
  out : ∀ a w, Fits C g a → Sat C.W (l ++ C.fr) w → Q a w
structure J (C : Ctx) (c : Code) (Q : Post) (g : Regs) (l : List HP) : Prop where
  out : ∀ a w, Fits C g a → Sat C.W (l ++ C.fr) w → c.wpIn (FR C.r) 0 C.P Q a w
structure JO (C : Ctx) (opl : List Oper) (Q : Post) (os : List Oper) (g : Regs) (l : List HP) : Prop where
  out : ∀ a w, Fits C g a → Sat C.W (l ++ C.fr) w → wpListIn (FR C.r) 0 C.P opl.toArray Q os a w
def PThen (C : Ctx) (y : Code) (Q : Post) : Post := Exit.then (fun a w => y.wpIn (FR C.r) 0 C.P Q a w) Q
def PBlock (id : Nat) (Q : Post) : Post := Exit.inBlock id Q
section control
variable {C : Ctx} {Q : Post} {g : Regs} {l : List HP} {x y : Code}
theorem J_seq (h : J C x (PThen C y Q) g l) : J C (.seq x y) Q g l := ⟨fun a w hf hs => wpIn_seq (h.out a w hf hs)⟩
theorem J_block {id : Nat} (h : J C x (PBlock id Q) g l) : J C (.block id x) Q g l := ⟨fun a w hf hs => wpIn_block (h.out a w hf hs)⟩
theorem J_skip (h : At C (Q .normal) g l) : J C .skip Q g l := ⟨fun a w hf hs => wpIn_skip (h.out a w hf hs)⟩
theorem J_label {n : Nat} (h : At C (Q .normal) g l) : J C (.label n) Q g l := ⟨fun a w hf hs => wpIn_label (h.out a w hf hs)⟩
theorem J_exit {id : Nat} (h : At C (Q (.exit id)) g l) : J C (.exit id) Q g l := ⟨fun a w hf hs => wpIn_exit (h.out a w hf hs)⟩
theorem J_ret (h : At C (Q .ret) g l) : J C .ret Q g l := ⟨fun a w hf hs => wpIn_ret (h.out a w hf hs)⟩
theorem J_cond_t {c : Operand} (hc : ev g c = some (.bool true)) (h : J C x Q g l) : J C (.cond c x y) Q g l :=
  ⟨fun a w hf hs => wpIn_cond_true (hf.ev hc) (h.out a w hf hs)⟩
theorem J_cond_f {c : Operand} (hc : ev g c = some (.bool false)) (h : J C y Q g l) : J C (.cond c x y) Q g l :=
  ⟨fun a w hf hs => wpIn_cond_false (hf.ev hc) (h.out a w hf hs)⟩
theorem J_region {id : Nat} {os : List Oper} (h : JO C os Q os g l) : J C (.region id os.toArray false) Q g l :=
  ⟨fun a w hf hs => wpIn_region_lit (h.out a w hf hs)⟩
theorem JO_nil {opl : List Oper} (h : At C (Q .normal) g l) : JO C opl Q [] g l := ⟨fun a w hf hs => wpListIn_nil (h.out a w hf hs)⟩
theorem At_then_normal (h : J C y Q g l) : At C (PThen C y Q .normal) g l := ⟨h.out⟩
theorem At_then_exit {id : Nat} (h : At C (Q (.exit id)) g l) : At C (PThen C y Q (.exit id)) g l := ⟨h.out⟩
theorem At_then_ret (h : At C (Q .ret) g l) : At C (PThen C y Q .ret) g l := ⟨h.out⟩
theorem At_block_normal {id : Nat} (h : At C (Q .normal) g l) : At C (PBlock id Q .normal) g l := ⟨h.out⟩
theorem At_block_ret {id : Nat} (h : At C (Q .ret) g l) : At C (PBlock id Q .ret) g l := ⟨h.out⟩
theorem At_block_hit {id : Nat} (h : At C (Q .normal) g l) : At C (PBlock id Q (.exit id)) g l :=
  ⟨fun a w hf hs => by unfold PBlock Exit.inBlock; simp only [if_true]; exact h.out a w hf hs⟩
theorem At_block_miss {id id' : Nat} (e : Nat.beq id' id = false) (h : At C (Q (.exit id')) g l) : At C (PBlock id Q (.exit id')) g l :=
  ⟨fun a w hf hs => by
    have hne : id' ≠ id := fun x => by subst x; simp at e
    unfold PBlock Exit.inBlock; simp only [hne, if_false]; exact h.out a w hf hs⟩
theorem J_regs {g' : Regs} (hg : SubG g' g) (h : J C x Q g' l) : J C x Q g l := ⟨fun a w hf hs => h.out a w (hf.sub hg) hs⟩
theorem Sat.lift {W w : World} {l l' fr : List HP} (h : Sat W (l ++ fr) w) (k : ∀ H, Stars l H → Stars l' H) : Sat W (l' ++ fr) w :=
  h.to fun H hH => by
    obtain ⟨h1, h2, ap, s1, s2, a, b⟩ := hH.app
    exact Stars.unapp ap s1 s2 (k _ a) b
theorem J_hp {l' : List HP} (hl : ∀ H, Stars l H → Stars l' H) (h : J C x Q g l') : J C x Q g l := ⟨fun a w hf hs => h.out a w hf (hs.lift hl)⟩
theorem JO_hp {opl os : List Oper} {l' : List HP} (hl : ∀ H, Stars l H → Stars l' H) (h : JO C opl Q os g l') : JO C opl Q os g l := ⟨fun a w hf hs => h.out a w hf (hs.lift hl)⟩
theorem At_hp {R : Act → World → Prop} {l' : List HP} (hl : ∀ H, Stars l H → Stars l' H) (h : At C R g l') : At C R g l := ⟨fun a w hf hs => h.out a w hf (hs.lift hl)⟩
theorem JO_perm {opl os : List Oper} {l' : List HP} (p : l.Perm l') (h : JO C opl Q os g l') : JO C opl Q os g l := JO_hp (fun _ => Stars.perm p) h
def PRound (C : Ctx) {α : Type} (I : α → Prop) (G : α → Regs) (L : α → List HP) (μ : α → Nat) (x : α) (Q : Post) : Post :=
  Exit.then (fun a w => ∃ y, μ y < μ x ∧ I y ∧ Fits C (G y) a ∧ Sat C.W (L y ++ C.fr) w) Q
theorem J_loop {α : Type} (I : α → Prop) (G : α → Regs) (L : α → List HP) (μ : α → Nat) (x0 : α) (hI : I x0) (hg : SubG (G x0) g) (hl : ∀ H, Stars l H → Stars (L x0) H)
    (h : ∀ x, I x → J C y (PRound C I G L μ x Q) (G x) (L x)) : J C (.loop y) Q g l := by
  constructor
  intro a w hf hs
  let Inv : Act → World → Nat → Prop := fun a w n => ∃ x, μ x = n ∧ I x ∧ Fits C (G x) a ∧ Sat C.W (L x ++ C.fr) w
  have hmin : ∀ a w, (∃ n, Inv a w n) → ∃ n, Inv a w n ∧ ∀ m, Inv a w m → n ≤ m := by
    intro a w ⟨n, hn⟩
    induction n using Nat.strongRecOn with
    | _ n ih =>
      by_cases e : ∃ m, m < n ∧ Inv a w m
      · obtain ⟨m, hlt, hm⟩ := e; exact ih m hlt hm
      · exact ⟨n, hn, fun m hm => Nat.le_of_not_lt fun hlt => e ⟨m, hlt, hm⟩⟩
  let M : Act → World → Nat := fun a w => by
    classical exact if e : ∃ n, Inv a w n then (hmin a w e).choose else 0
  have hM : ∀ a w n, Inv a w n → Inv a w (M a w) ∧ M a w ≤ n := by
    intro a w n hn
    have e : ∃ n, Inv a w n := ⟨n, hn⟩
    have : M a w = (hmin a w e).choose := by simp only [M]; rw [dif_pos e]
    rw [this]
    exact ⟨(hmin a w e).choose_spec.1, (hmin a w e).choose_spec.2 n hn⟩
  refine wpIn_loop (fun a w => ∃ n, Inv a w n) M ⟨_, x0, rfl, hI, hf.sub hg, hs.lift hl⟩ ?_
  intro a w ⟨n, hn⟩
  obtain ⟨⟨x, hx, hIx, hfx, hsx⟩, _⟩ := hM a w n hn
  refine wpIn_mono ((h x hIx).out a w hfx hsx) ?_
  intro e a' w' hq
  cases e with
  | normal =>
    obtain ⟨z, hlt, hIz, hfz, hsz⟩ := hq
    have hz : Inv a' w' (μ z) := ⟨z, rfl, hIz, hfz, hsz⟩
    exact ⟨⟨_, hz⟩, Nat.lt_of_le_of_lt (hM a' w' _ hz).2 (hx ▸ hlt)⟩
  | _ => exact hq
theorem At_round {α : Type} {I : α → Prop} {G : α → Regs} {L : α → List HP} {μ : α → Nat} {x : α} (z : α) (hμ : μ z < μ x) (hI : I z) (hg : SubG (G z) g) (hl : ∀ H, Stars l H → Stars (L z) H) :
    At C (PRound C I G L μ x Q .normal) g l := ⟨fun a w hf hs => ⟨z, hμ, hI, hf.sub hg, hs.lift hl⟩⟩
theorem At_round_exit {α : Type} {I : α → Prop} {G : α → Regs} {L : α → List HP} {μ : α → Nat} {x : α} {id : Nat} (h : At C (Q (.exit id)) g l) : At C (PRound C I G L μ x Q (.exit id)) g l := ⟨h.out⟩
theorem At_round_ret {α : Type} {I : α → Prop} {G : α → Regs} {L : α → List HP} {μ : α → Nat} {x : α} (h : At C (Q .ret) g l) : At C (PRound C I G L μ x Q .ret) g l := ⟨h.out⟩
def PMeet (C : Ctx) {α : Type} (I : α → Prop) (G : α → Regs) (L : α → List HP) (Q : Post) : Post :=
  Exit.then (fun a w => ∃ y, I y ∧ Fits C (G y) a ∧ Sat C.W (L y ++ C.fr) w) Q
theorem At_meet {α : Type} {I : α → Prop} {G : α → Regs} {L : α → List HP} (z : α) (hI : I z) (hg : SubG (G z) g) (hl : ∀ H, Stars l H → Stars (L z) H) :
    At C (PMeet C I G L Q .normal) g l := ⟨fun a w hf hs => ⟨z, hI, hf.sub hg, hs.lift hl⟩⟩
theorem At_meet_exit {α : Type} {I : α → Prop} {G : α → Regs} {L : α → List HP} {id : Nat} (h : At C (Q (.exit id)) g l) : At C (PMeet C I G L Q (.exit id)) g l := ⟨h.out⟩
theorem At_meet_ret {α : Type} {I : α → Prop} {G : α → Regs} {L : α → List HP} (h : At C (Q .ret) g l) : At C (PMeet C I G L Q .ret) g l := ⟨h.out⟩
end control
def FP (C : Ctx) (fn : Func) (post : Value → List HP → Prop) : Post :=
  bodyPost C.P fn fun e w' => ∃ v l', e = .returned v ∧ post v l' ∧ Sat C.W (l' ++ C.fr) w'
def Enters (P : Program) (f : FuncId) : Prop := ∀ args w, (callFunc f args).run P w = .ok (.enter f args) w
def Does (P : Program) (f : FuncId) (args : List Value) (pre : List HP) (post : Value → List HP → Prop) : Prop :=
  Enters P f ∧ ∀ (W : World) (fr : List HP) (w : World), Sat W (pre ++ fr) w →
    Calls P f args.toArray w fun e w' => ∃ v l', e = .returned v ∧ post v l' ∧ Sat W (l' ++ fr) w'
theorem Does.mono {P : Program} {f : FuncId} {args : List Value} {pre : List HP} {post post' : Value → List HP → Prop} (h : Does P f args pre post) (k : ∀ v l, post v l → post' v l) : Does P f args pre post' :=
  ⟨h.1, fun W fr w hs => (h.2 W fr w hs).mono fun e w' ⟨v, l', he, hp, hs'⟩ => ⟨v, l', he, k _ _ hp, hs'⟩⟩
def regsOf : List Value → Nat → Regs
  | [], _ => []
  | v :: vs, i => (i, v) :: regsOf vs (i + 1)
theorem look_regsOf {vs : List Value} : ∀ {i t : Nat} {v : Value}, look (regsOf vs i) t = some v → i ≤ t ∧ vs[t - i]? = some v := by
  induction vs with
  | nil => intro i t v h; cases h
  | cons u us ih =>
    intro i t v h
    simp only [regsOf, look] at h
    cases b : Nat.beq i t with
    | true =>
      simp only [b, cond_true] at h
      have := Nat.eq_of_beq_eq_true b
      subst this
      exact ⟨Nat.le_refl _, by simpa using h⟩
    | false =>
      simp only [b, cond_false] at h
      obtain ⟨h1, h2⟩ := ih h
      refine ⟨by omega, ?_⟩
      have : t - i = (t - (i + 1)) + 1 := by omega
      rw [this]; simpa using h2
theorem Does.of {P : Program} {ti : TIs} (ok : TIok P ti) {f : FuncId} {fn : Func} {c : Code} {args : List Value} {pre : List HP} {post : Value → List HP → Prop} (hf : P.funcs[f]? = some fn)
    (hname : (fn.name == "runtime.NumGoroutine") = false) (hb : fn.body = some c) {N : Nat} (hN : fn.ntmps = N) (hlen : Nat.ble args.length N = true)
    (h : ∀ (W : World) (fr : List HP), J ⟨P, ti, ok, none, N, [], W, fr⟩ c (FP ⟨P, ti, ok, none, N, [], W, fr⟩ fn post) (regsOf args 0) pre) : Does P f args pre post := by
  refine ⟨fun args w => Go.Proofs.enters_of hf hname hb args w, fun W fr w hs => ?_⟩
  refine calls_of_wp hf hb ?_
  refine wpIn_wide (n := 0).1 ?_
  refine (h W fr).out _ _ ⟨rfl, ?_, ?_⟩ hs
  · have := Nat.le_of_ble_eq_true hlen
    simp [hN]; omega
  · intro t v e
    obtain ⟨_, e⟩ := look_regsOf e
    have hlt : t < args.length := by
      rcases Nat.lt_or_ge t args.length with h' | h'
      · exact h'
      · simp [h'] at e
    simp at e
    simp [Array.getElem?_append, hlt]
    simpa [hlt] using e
section returns
variable {C : Ctx} {fn : Func} {post : Value → List HP → Prop} {g : Regs} {l : List HP}
theorem At_ret1 (hD : C.D = []) {t : Nat} (hr : fn.results = #[.tmp t]) {v : Value} (hv : look g t = some v) {is : List Nat} {l' r : List HP} (hp : picks l is = some (l', r)) (h : post v l') : At C (FP C fn post .ret) g l :=
  ⟨fun a w hf hs => ⟨hf.1.trans hD, _, results_tmp hr _ _ _, _, l', rfl, by rw [hf.2.2 t v hv]; exact h, hs.lift fun _ k => (k.perm (picks_perm hp)).left⟩⟩
theorem At_ret2 (hD : C.D = []) {t u : Nat} (hr : fn.results = #[.tmp t, .tmp u]) {v v' : Value} (hv : look g t = some v) (hv' : look g u = some v') {is : List Nat} {l' r : List HP} (hp : picks l is = some (l', r)) (h : post (.tuple #[v, v']) l') : At C (FP C fn post .ret) g l :=
  ⟨fun a w hf hs => ⟨hf.1.trans hD, _, results_tmp2 hr _ _ _, _, l', rfl, by rw [hf.2.2 t v hv, hf.2.2 u v' hv']; exact h, hs.lift fun _ k => (k.perm (picks_perm hp)).left⟩⟩
end returns
open Go.RowKit
def nth {α : Type} : List α → Nat → Option α
  | [], _ => none
  | x :: _, 0 => some x
  | _ :: l, n + 1 => nth l n
theorem nth_eq {α : Type} : ∀ (l : List α) (n : Nat), nth l n = l[n]?
  | [], _ => by simp [nth]
  | _ :: _, 0 => by simp [nth]
  | _ :: l, n + 1 => by simp [nth, nth_eq l n]
def isTrue : Value → Option Bool
  | .bool b => some b
  | _ => none
def gw (opl : List Oper) (g : Regs) : Option (Nat × Bool) → Option Bool
  | none => some true
  | some (j, want) => match nth opl j with
    | some ⟨some d, _, _, _, _, _⟩ => match look g d with
      | some v => match isTrue v with
        | some b => some (b == want)
        | none => some false
      | none => none
    | _ => none
theorem wpIn_of_upon {C : Ctx} {o : Oper} {a : Act} {w : World} {K : Act → World → Prop} {Q : Post} (hd : ∀ c, o.op ≠ .defer c) (h : o.uponIn (FR C.r) 0 C.P a K Q ((execOp a.eval o).run C.P w)) :
    o.wpIn (FR C.r) 0 C.P a w K Q := by
  refine ⟨fun _ _ => trivial, ?_⟩
  rw [Oper.semAt_eq _ _ _ hd]
  exact h
theorem Fits.lt {C : Ctx} {g : Regs} {a : Act} (h : Fits C g a) {d : Nat} {v : Value} (e : look g d = some v) (hv : v ≠ undef) : d < C.N := by
  have h3 := h.2.2 d v e
  rcases Nat.lt_or_ge d C.N with h' | h'
  · exact h'
  · rw [Array.getD_eq_getD_getElem?, Array.getElem?_eq_none (by rw [h.2.1]; exact h')] at h3
    exact absurd h3.symm hv
theorem gw_true {C : Ctx} {opl : List Oper} {g : Regs} {a : Act} {o : Oper} (hf : Fits C g a) (h : gw opl g o.guard = some true) :
    Region.wanted o (yielded opl.toArray a.tmps) = true := by
  unfold gw at h
  unfold Region.wanted
  split at h
  · rename_i e; rw [e]
  · rename_i j want e
    rw [e]
    split at h
    · rename_i d _ _ _ _ _ hn
      rw [nth_eq] at hn
      split at h
      · rename_i v hv
        split at h
        · rename_i b' hb
          injection h with h
          cases v <;> simp [isTrue] at hb
          subst hb
          rename_i c
          have hlt : d < a.tmps.size := by rw [hf.2.1]; exact hf.lt hv (by intro x; cases x)
          have h1 := hf.2.2 d _ hv
          have h2 : a.tmps[d]? = some (.bool c) := by
            rw [Array.getD_eq_getD_getElem?] at h1
            rw [Array.getElem?_eq_getElem hlt] at h1 ⊢
            simpa using h1
          have hy : yielded opl.toArray a.tmps j = some c := by
            unfold yielded
            simp [hn, h2]
          simp only [hy]
          cases c <;> cases want <;> simp_all
        · cases h
      · cases h
    · cases h
theorem gw_false {C : Ctx} {opl : List Oper} {g : Regs} {a : Act} {o : Oper} (hf : Fits C g a) (h : gw opl g o.guard = some false) :
    Region.wanted o (yielded opl.toArray a.tmps) = false := by
  unfold gw at h
  unfold Region.wanted
  split at h
  · cases h
  · rename_i j want e
    rw [e]
    split at h
    · rename_i d _ _ _ _ _ hn
      rw [nth_eq] at hn
      split at h
      · rename_i v hv
        have h1 := hf.2.2 d v hv
        have hy : yielded opl.toArray a.tmps j = none ∨ ∃ c, v = .bool c ∧ yielded opl.toArray a.tmps j = some c := by
          unfold yielded
          simp only [List.getElem?_toArray, hn, Option.bind_some]
          rcases Nat.lt_or_ge d a.tmps.size with hlt | hge
          · rw [Array.getD_eq_getD_getElem?, Array.getElem?_eq_getElem hlt] at h1
            rw [Array.getElem?_eq_getElem hlt]
            simp at h1
            subst h1
            cases hx : a.tmps[d] <;> simp
          · left; simp [Array.getElem?_eq_none hge]
        rcases hy with hy | ⟨c, rfl, hy⟩
        · simp [hy]
        · simp only [isTrue] at h
          injection h with h
          simp only [hy]
          cases c <;> cases want <;> simp_all
      · cases h
    · cases h
section rules
variable {C : Ctx} {opl : List Oper} {Q : Post} {rest : List Oper} {g : Regs} {l : List HP} {o : Op} {ty : TypeId} {pos : String} {af : Array Edge} {gd : Option (Nat × Bool)} {d : Tmp}
theorem JO_step {dst : Option Tmp} (hd : ∀ c, o ≠ .defer c) (hw : gw opl g gd = some true)
    (h : ∀ a w, Fits C g a → Sat C.W (l ++ C.fr) w → Oper.uponIn (FR C.r) 0 C.P ⟨dst, o, ty, pos, af, gd⟩ a (wpListIn (FR C.r) 0 C.P opl.toArray Q rest) Q ((execOp a.eval ⟨dst, o, ty, pos, af, gd⟩).run C.P w)) :
    JO C opl Q (⟨dst, o, ty, pos, af, gd⟩ :: rest) g l := by
  refine ⟨fun a w hf hs => ?_⟩
  refine wpListIn_step fun K hK => ?_
  rw [if_pos (gw_true (o := ⟨dst, o, ty, pos, af, gd⟩) hf hw)]
  refine Oper.wpIn_mono hK (wpIn_of_upon hd (h a w hf hs))
theorem JO_skip (hw : gw opl g gd = some false) (hN : Nat.blt d C.N = true) (k : JO C opl Q rest ((d, undef) :: g) l) : JO C opl Q (⟨some d, o, ty, pos, af, gd⟩ :: rest) g l := by
  refine ⟨fun a w hf hs => ?_⟩
  refine wpListIn_step fun K hK => ?_
  rw [gw_false (o := ⟨some d, o, ty, pos, af, gd⟩) hf hw]
  exact ⟨fun _ _ => trivial, hK _ _ (k.out _ _ (hf.put hN) hs)⟩
theorem JO_skip0 (hw : gw opl g gd = some false) (k : JO C opl Q rest g l) : JO C opl Q (⟨none, o, ty, pos, af, gd⟩ :: rest) g l := by
  refine ⟨fun a w hf hs => ?_⟩
  refine wpListIn_step fun K hK => ?_
  rw [gw_false (o := ⟨none, o, ty, pos, af, gd⟩) hf hw]
  exact ⟨fun _ _ => trivial, hK _ _ (k.out _ _ hf hs)⟩
theorem JO_val {v : Value} (h : OpV C g o v) (hw : gw opl g gd = some true) (hN : Nat.blt d C.N = true) (k : JO C opl Q rest ((d, v) :: g) l) : JO C opl Q (⟨some d, o, ty, pos, af, gd⟩ :: rest) g l :=
  JO_step h.1 hw fun a w hf hs => by rw [h.2 _ _ _ _ _ a w hf]; exact k.out _ _ (hf.put hN) hs
theorem JO_v {v : Value} (h : pureOp C.ti g o = some v) (hw : gw opl g gd = some true) (hN : Nat.blt d C.N = true) (k : JO C opl Q rest ((d, v) :: g) l) : JO C opl Q (⟨some d, o, ty, pos, af, gd⟩ :: rest) g l :=
  JO_val (pureOp_sound h) hw hN k
end rules
theorem wrap_id {n : Int} (h1 : -9223372036854775808 ≤ n) (h2 : n ≤ 9223372036854775807) : IntKind.wrap .i64 n = n := IntWalk.i64_in n ⟨h1, h2⟩
def litL : List Value → Option (List Value)
  | [] => some []
  | x :: r => match litL r with
    | some r' => some (x :: r')
    | none => none
theorem litL_eq : ∀ {l l' : List Value}, litL l = some l' → l = l' := by
  intro l
  induction l with
  | nil => intro l' h; simp [litL] at h; exact h.symm
  | cons x r ih =>
    intro l' h
    simp only [litL] at h
    split at h
    · rename_i r' e; injection h with h; rw [← h, ih e]
    · cases h
def cellsL (v : Value) : Option (List Value) := litL v.cells.toList
def put1 : List Value → Nat → Value → Option (List Value)
  | [], _, _ => none
  | _ :: r, 0, v => some (v :: r)
  | x :: r, n + 1, v => match put1 r n v with
    | some r' => some (x :: r')
    | none => none
theorem put1_eq : ∀ {cs : List Value} {n : Nat} {v : Value} {cs' : List Value}, put1 cs n v = some cs' → n < cs.length ∧ cs' = cs.set n v := by
  intro cs
  induction cs with
  | nil => intro n v cs' h; cases h
  | cons x r ih =>
    intro n v cs' h
    cases n with
    | zero => simp [put1] at h; subst h; simp
    | succ n =>
      simp only [put1] at h
      split at h
      · rename_i r' e; injection h with h; subst h; obtain ⟨h1, h2⟩ := ih e; subst h2; simp; omega
      · cases h
def putL : List Value → Nat → List Value → Option (List Value)
  | cs, _, [] => some cs
  | cs, o, v :: vs => match put1 cs o v with
    | some cs' => putL cs' (o + 1) vs
    | none => none
def blk (b : Nat) (cs : List Value) (T : Nat) : HP := pt b (.cells cs.toArray T (0, 0))
def ptr (b o : Nat) : Value := .pointer (some ⟨b, o, none⟩)
theorem Sat.blk {W w : World} {l : List HP} {b : Nat} {cs : List Value} {T : Nat} (h : Sat W l w) (m : blk b cs T ∈ l) : w.heap[b]? = some (.cells cs.toArray T (0, 0)) := h.at m
theorem cell_of {w : World} {b : Nat} {cs : List Value} {T : Nat} (h : w.heap[b]? = some (.cells cs.toArray T (0, 0))) (o : Nat) : w.cell? ⟨b, o, none⟩ = cs[o]? := by
  simp [World.cell?, h]
theorem frozen_of {w : World} {b : Nat} {cs : List Value} {T : Nat} (h : w.heap[b]? = some (.cells cs.toArray T (0, 0))) (o : Nat) : w.frozen? ⟨b, o, none⟩ = false := by
  simp [World.frozen?, h]
theorem run_load {P : Program} {w : World} {a : Addr} {v : Value} (h : w.cell? a = some v) : (load a).run P w = .ok v w := by
  simp [load, Sem.run, h]
theorem run_loadCells {P : Program} {w : World} {b : Nat} {cs : List Value} {T : Nat} (h : w.heap[b]? = some (.cells cs.toArray T (0, 0))) (off : Nat) :
    ∀ (n i : Nat) (vs : List Value) (acc : Array Value), takeL cs (off + i) n = some vs → (loadCellsFrom ⟨b, off, none⟩ i n acc).run P w = .ok (acc ++ vs.toArray) w := by
  intro n
  induction n with
  | zero => intro i vs acc e; simp [takeL] at e; subst e; simp [loadCellsFrom, Pure.pure, Sem.run]
  | succ n ih =>
    intro i vs acc e
    simp only [takeL] at e
    split at e
    · rename_i v vs' h1 h2
      injection e with e
      subst e
      have hc : w.cell? ⟨b, off + i, none⟩ = some v := by rw [cell_of h]; exact h1
      simp only [loadCellsFrom, addr_add, Sem.run_bind, run_load hc, Result.andThen]
      rw [ih (i + 1) vs' _ (by rw [← h2]; rfl)]
      simp
    · cases e
theorem sizeAt_run {C : Ctx} {t n : Nat} (h : sizeAt C.ti t = some n) (w : World) : (sizeOf t).run C.P w = .ok n w := by
  unfold sizeAt at h
  split at h
  · rename_i hl; injection h with h; subst h; exact run_sizeOf w (C.ok.look hl)
  · cases h
theorem aggAt_run {C : Ctx} {t : Nat} {b : Bool} (h : aggAt C.ti t = some b) (w : World) : (isAgg t).run C.P w = .ok b w := by
  unfold aggAt at h
  split at h
  · rename_i hl; injection h with h; subst h; exact run_isAgg w (C.ok.look hl)
  · cases h
theorem run_storeCells {P : Program} : ∀ (vs : List Value) (w : World) (W : World) (l : List HP) (b off i T : Nat) (cs cs' : List Value), Sat W (blk b cs T :: l) w → (∀ v ∈ vs, (∀ c, v ≠ .agg c) ∧ ∀ c, v ≠ .tuple c) →
    putL cs (off + i) vs = some cs' → ∃ w', (storeCells ⟨b, off, none⟩ vs i).run P w = .ok () w' ∧ Sat W (blk b cs' T :: l) w' := by
  intro vs
  induction vs with
  | nil => intro w W l b off i T cs cs' hs _ e; simp [putL] at e; subst e; exact ⟨w, by simp [storeCells, Pure.pure, Sem.run], hs⟩
  | cons v vs ih =>
    intro w W l b off i T cs cs' hs hv e
    simp only [putL] at e
    split at e
    · rename_i c1 h1
      obtain ⟨hlt, rfl⟩ := put1_eq h1
      have hb := hs.blk (List.mem_cons_self ..)
      have hc : w.cell? ⟨b, off + i, none⟩ = some cs[off + i] := by rw [cell_of hb]; simp [hlt]
      have hst : (store ⟨b, off + i, none⟩ v).run P w = .ok () (w.setCell ⟨b, off + i, none⟩ v) := by
        obtain ⟨n1, n2⟩ := hv v (List.mem_cons_self ..)
        cases v <;> first | exact absurd rfl (n1 _) | exact absurd rfl (n2 _) | simp [store, Sem.run, hc, frozen_of hb]
      have hs' : Sat W (blk b (cs.set (off + i) v) T :: l) (w.setCell ⟨b, off + i, none⟩ v) := by
        have := Sat.setCell (off := off + i) hs v
        simpa [Sep.blk] using this
      obtain ⟨w', hr, hs''⟩ := ih _ W l b off (i + 1) T _ cs' hs' (fun v hv' => hv v (List.mem_cons_of_mem _ hv')) (by rw [← e]; rfl)
      refine ⟨w', ?_, hs''⟩
      simp only [storeCells, addr_add, Sem.run_bind, hst, Result.andThen]
      exact hr
    · cases e
def plainL : List Value → Bool
  | [] => true
  | .agg _ :: _ => false
  | .tuple _ :: _ => false
  | _ :: r => plainL r
theorem plainL_mem : ∀ {vs : List Value}, plainL vs = true → ∀ v ∈ vs, (∀ c, v ≠ .agg c) ∧ ∀ c, v ≠ .tuple c := by
  intro vs
  induction vs with
  | nil => intro _ v hv; cases hv
  | cons x r ih =>
    intro h v hv
    have hx : plainL r = true ∧ (∀ c, x ≠ .agg c) ∧ ∀ c, x ≠ .tuple c := by
      cases x <;> simp [plainL] at h <;> simp [h]
    rcases List.mem_cons.1 hv with rfl | hv
    · exact hx.2
    · exact ih hx.1 v hv
structure OpQ (C : Ctx) (g : Regs) (l : List HP) (o : Op) (v : Value) : Prop where
  nd : ∀ c, o ≠ .defer c
  out : ∀ (dst : Option Tmp) (ty : TypeId) (pos : String) (af : Array Edge) (gd : Option (Nat × Bool)) (a : Act), Fits C g a → ∀ w, Sat C.W (l ++ C.fr) w →
    Oper.quietUpon C.P (Sat C.W (l ++ C.fr)) w v ((execOp a.eval ⟨dst, o, ty, pos, af, gd⟩).run C.P w)
structure OpL (C : Ctx) (g : Regs) (l : List HP) (o : Op) (R : Value → List HP → Prop) : Prop where
  nd : ∀ c, o ≠ .defer c
  out : ∀ (dst : Option Tmp) (ty : TypeId) (pos : String) (af : Array Edge) (gd : Option (Nat × Bool)) (a : Act) (w : World), Fits C g a → Sat C.W (l ++ C.fr) w →
    ∀ (K : Act → World → Prop) (Q : Post), (∀ v l' w', R v l' → Sat C.W (l' ++ C.fr) w' → K (a.put dst v) w') →
      Oper.uponIn (FR C.r) 0 C.P ⟨dst, o, ty, pos, af, gd⟩ a K Q ((execOp a.eval ⟨dst, o, ty, pos, af, gd⟩).run C.P w)
theorem OpV.q {C : Ctx} {g : Regs} {l : List HP} {o : Op} {v : Value} (h : OpV C g o v) : OpQ C g l o v :=
  ⟨h.1, fun dst ty pos af gd a hf w hs => by rw [h.2 dst ty pos af gd a w hf]; exact ⟨rfl, rfl⟩⟩
theorem OpQ.l {C : Ctx} {g : Regs} {l : List HP} {o : Op} {v : Value} (h : OpQ C g l o v) : OpL C g l o (fun v' l' => v' = v ∧ l' = l) :=
  ⟨h.nd, fun dst ty pos af gd a w hf hs K Q k => by
    have h1 := h.out dst ty pos af gd a hf w hs
    generalize (execOp a.eval ⟨dst, o, ty, pos, af, gd⟩).run C.P w = res at *
    cases res with
    | ok n w' =>
      cases n <;> simp only [Oper.quietUpon] at h1 <;> simp only [Oper.uponIn]
      case value u => obtain ⟨e1, e2⟩ := h1; rw [e1, e2]; exact k _ _ _ ⟨rfl, rfl⟩ hs
      case skip => obtain ⟨e1, e2⟩ := h1; rw [e1, ← e2]; exact k _ _ _ ⟨rfl, rfl⟩ hs
      case enter f args =>
        obtain ⟨e1, hc⟩ := h1
        rw [e1]
        refine ⟨fun h => (by cases h), (callsIn_wide (n := 0 - 1)).2 (hc.mono fun e w'' ⟨he, hw''⟩ => ?_)⟩
        subst he
        exact k _ _ _ ⟨rfl, rfl⟩ hw''
    | halt x w' => simp only [Oper.quietUpon] at h1⟩
section steps
variable {C : Ctx} {opl : List Oper} {Q : Post} {rest : List Oper} {g : Regs} {l : List HP} {o : Op} {ty : TypeId} {pos : String} {af : Array Edge} {gd : Option (Nat × Bool)} {d : Tmp}
theorem JO_l {R : Value → List HP → Prop} (h : OpL C g l o R) (hw : gw opl g gd = some true) (hN : Nat.blt d C.N = true) (k : ∀ v l', R v l' → JO C opl Q rest ((d, v) :: g) l') : JO C opl Q (⟨some d, o, ty, pos, af, gd⟩ :: rest) g l :=
  JO_step h.nd hw fun a w hf hs => h.out _ _ _ _ _ a w hf hs _ _ fun v l' w' hr hs' => (k v l' hr).out _ _ (hf.put hN) hs'
theorem JO_l0 {R : Value → List HP → Prop} (h : OpL C g l o R) (hw : gw opl g gd = some true) (k : ∀ v l', R v l' → JO C opl Q rest g l') : JO C opl Q (⟨none, o, ty, pos, af, gd⟩ :: rest) g l :=
  JO_step h.nd hw fun a w hf hs => h.out _ _ _ _ _ a w hf hs _ _ fun v l' w' hr hs' => (k v l' hr).out _ _ hf hs'
theorem JO_q {v : Value} (h : OpQ C g l o v) (hw : gw opl g gd = some true) (hN : Nat.blt d C.N = true) (k : JO C opl Q rest ((d, v) :: g) l) : JO C opl Q (⟨some d, o, ty, pos, af, gd⟩ :: rest) g l :=
  JO_l h.l hw hN (by rintro _ _ ⟨rfl, rfl⟩; exact k)
end steps
section mem
variable {C : Ctx} {opl : List Oper} {Q : Post} {rest : List Oper} {g : Regs} {l : List HP} {ty : TypeId} {pos : String} {af : Array Edge} {gd : Option (Nat × Bool)} {d : Tmp}
theorem JO_mt {x : Operand} {φ : Prop} [Decidable φ] (h : ev g x = some (.bool (decide φ))) (e : φ) (hw : gw opl g gd = some true) (hN : Nat.blt d C.N = true) (k : JO C opl Q rest ((d, .bool true) :: g) l) : JO C opl Q (⟨some d, .move x, ty, pos, af, gd⟩ :: rest) g l :=
  JO_v (v := .bool true) (by show ev g x = _; simpa [e] using h) hw hN k
theorem JO_mf {x : Operand} {φ : Prop} [Decidable φ] (h : ev g x = some (.bool (decide φ))) (e : ¬ φ) (hw : gw opl g gd = some true) (hN : Nat.blt d C.N = true) (k : JO C opl Q rest ((d, .bool false) :: g) l) : JO C opl Q (⟨some d, .move x, ty, pos, af, gd⟩ :: rest) g l :=
  JO_v (v := .bool false) (by show ev g x = _; simpa [e] using h) hw hN k
theorem JO_mb {x : Operand} {φ : Prop} [Decidable φ] (h : ev g x = some (.bool (decide φ))) (hw : gw opl g gd = some true) (hN : Nat.blt d C.N = true) (k1 : φ → JO C opl Q rest ((d, .bool true) :: g) l) (k2 : ¬ φ → JO C opl Q rest ((d, .bool false) :: g) l) : JO C opl Q (⟨some d, .move x, ty, pos, af, gd⟩ :: rest) g l := by
  by_cases e : φ
  · exact JO_mt h e hw hN (k1 e)
  · exact JO_mf h e hw hN (k2 e)
theorem JO_nt {x : Operand} {φ : Prop} [Decidable φ] (h : ev g x = some (.bool (!decide φ))) (e : ¬ φ) (hw : gw opl g gd = some true) (hN : Nat.blt d C.N = true) (k : JO C opl Q rest ((d, .bool true) :: g) l) : JO C opl Q (⟨some d, .move x, ty, pos, af, gd⟩ :: rest) g l :=
  JO_v (v := .bool true) (by show ev g x = _; simpa [e] using h) hw hN k
theorem JO_nf {x : Operand} {φ : Prop} [Decidable φ] (h : ev g x = some (.bool (!decide φ))) (e : φ) (hw : gw opl g gd = some true) (hN : Nat.blt d C.N = true) (k : JO C opl Q rest ((d, .bool false) :: g) l) : JO C opl Q (⟨some d, .move x, ty, pos, af, gd⟩ :: rest) g l :=
  JO_v (v := .bool false) (by show ev g x = _; simpa [e] using h) hw hN k
theorem JO_nb {x : Operand} {φ : Prop} [Decidable φ] (h : ev g x = some (.bool (!decide φ))) (hw : gw opl g gd = some true) (hN : Nat.blt d C.N = true) (k1 : ¬ φ → JO C opl Q rest ((d, .bool true) :: g) l) (k2 : φ → JO C opl Q rest ((d, .bool false) :: g) l) : JO C opl Q (⟨some d, .move x, ty, pos, af, gd⟩ :: rest) g l := by
  by_cases e : φ
  · exact JO_nf h e hw hN (k2 e)
  · exact JO_nt h e hw hN (k1 e)
section cond
variable {x y : Code} {c : Operand}
theorem J_ct {φ : Prop} [Decidable φ] (h : ev g c = some (.bool (decide φ))) (e : φ) (k : J C x Q g l) : J C (.cond c x y) Q g l := J_cond_t (by simpa [e] using h) k
theorem J_cf {φ : Prop} [Decidable φ] (h : ev g c = some (.bool (decide φ))) (e : ¬ φ) (k : J C y Q g l) : J C (.cond c x y) Q g l := J_cond_f (by simpa [e] using h) k
theorem J_cb {φ : Prop} [Decidable φ] (h : ev g c = some (.bool (decide φ))) (k1 : φ → J C x Q g l) (k2 : ¬ φ → J C y Q g l) : J C (.cond c x y) Q g l := by
  by_cases e : φ
  · exact J_ct h e (k1 e)
  · exact J_cf h e (k2 e)
theorem J_nt {φ : Prop} [Decidable φ] (h : ev g c = some (.bool (!decide φ))) (e : ¬ φ) (k : J C x Q g l) : J C (.cond c x y) Q g l := J_cond_t (by simpa [e] using h) k
theorem J_nf {φ : Prop} [Decidable φ] (h : ev g c = some (.bool (!decide φ))) (e : φ) (k : J C y Q g l) : J C (.cond c x y) Q g l := J_cond_f (by simpa [e] using h) k
theorem J_nb {φ : Prop} [Decidable φ] (h : ev g c = some (.bool (!decide φ))) (k1 : ¬ φ → J C x Q g l) (k2 : φ → J C y Q g l) : J C (.cond c x y) Q g l := by
  by_cases e : φ
  · exact J_nf h e (k2 e)
  · exact J_nt h e (k1 e)
end cond
end mem
open Go.RowKit
structure Tame (ops : Array Oper) : Prop where
  sel : ∀ (j : Nat) (o : Oper) cs b, ops[j]? = some o → o.op ≠ .select cs b
  dfr : ∀ (j : Nat) (o : Oper) c, ops[j]? = some o → o.op ≠ .defer c
def tameB (ops : Array Oper) : Bool := ops.all fun o => match o.op with
  | .select _ _ => false
  | .defer _ => false
  | _ => true
theorem tameB_spec {ops : Array Oper} (h : tameB ops = true) : Tame ops := by
  refine ⟨fun j o cs b ho e => ?_, fun j o c ho e => ?_⟩
  · have := Array.all_eq_true_iff_forall_mem.1 h o (Array.mem_of_getElem? ho)
    simp [e] at this
  · have := Array.all_eq_true_iff_forall_mem.1 h o (Array.mem_of_getElem? ho)
    simp [e] at this
section draws
variable {r : Option Nat} {P : Program} {ops : Array Oper} {Q : Post} {Kw : World → Prop}
def YieldsK (P : Program) (ops : Array Oper) (Kw : World → Prop) (o : Oper) (v : Value) (a : Act) : Prop :=
  (Region.wanted o (yielded ops a.tmps) = true ∧ ∀ w, Kw w → (execOp a.eval o).run P w = .ok (.value v) w) ∨ (Region.wanted o (yielded ops a.tmps) = false ∧ v = undef)
theorem YieldsK.of_same {o : Oper} {v : Value} {a a' : Act} (hy : YieldsK P ops Kw o v a) (he : execOp a'.eval o = execOp a.eval o)
    (hw : Region.wanted o (yielded ops a'.tmps) = Region.wanted o (yielded ops a.tmps)) : YieldsK P ops Kw o v a' := by
  unfold YieldsK at *
  rw [he, hw]
  exact hy
def wpAK (r : Option Nat) (P : Program) (ops : Array Oper) (Q : Post) (Kw : World → Prop) : Nat → Array Bool → Act → World → Prop
  | 0, listed, a, w => Kw w ∧ Region.ready .any ops listed = [] ∧ Q .normal a w
  | fuel + 1, listed, a, w => Kw w ∧ (Region.ready .any ops listed = [] → Q .normal a w) ∧ ∀ i ∈ Region.ready .any ops listed, wpOpIn (FR r) 0 P ops Q i (wpAK r P ops Q Kw fuel (listed.setIfInBounds i true)) a w
theorem wpAK.kept : ∀ {fuel : Nat} {listed : Array Bool} {a : Act} {w : World}, wpAK r P ops Q Kw fuel listed a w → Kw w
  | 0, _, _, _, h => h.1
  | _ + 1, _, _, _, h => h.1
theorem wpAK.any : ∀ {fuel : Nat} {listed : Array Bool} {a : Act} {w : World}, wpAK r P ops Q Kw fuel listed a w → wpAnyIn (FR r) 0 P .any ops Q fuel listed a w
  | 0, _, _, _, h => ⟨h.2.1, h.2.2⟩
  | _ + 1, _, _, _, h => ⟨h.2.1, fun i hi => wpOpIn_mono (fun _ _ h3 => h3.any) (h.2.2 i hi)⟩
theorem wOp_put {j : Nat} {oi oj : Oper} {v : Value} (T : Tame ops) (hsi : ∀ cs b, oi.op ≠ .select cs b) (hj : ops[j]? = some oj) (hap : oi.apart ops oj = true)
    (hQ : ∀ c a w, ¬ Q (.panic c) a w) {K : Act → World → Prop} {a : Act} {w : World} (hy : YieldsK P ops Kw oi v a)
    (h : wpOpIn (FR r) 0 P ops Q j K (a.put oi.dst v) w) : wpOpIn (FR r) 0 P ops Q j (fun a' w' => YieldsK P ops Kw oi v a' ∧ K (a'.put oi.dst v) w') a w := by
  obtain ⟨h1, h2, h3⟩ := Oper.apart_spec hap
  have hsj := fun cs b => T.sel j oj cs b hj
  have hdj := fun c => T.dfr j oj c hj
  have keep : ∀ (b : Act) (u : Value), YieldsK P ops Kw oi v b → YieldsK P ops Kw oi v (b.put oj.dst u) := fun b u hb =>
    hb.of_same (execOp_put oi hsi b oj.dst u h3) (wanted_put oi b oj.dst u h3)
  have keepD : ∀ d, YieldsK P ops Kw oi v { a with defers := d :: a.defers } := fun d => hy.of_same rfl rfl
  have go : ∀ (u : Value) (w' : World), K ((a.put oi.dst v).put oj.dst u) w' → YieldsK P ops Kw oi v (a.put oj.dst u) ∧ K ((a.put oj.dst u).put oi.dst v) w' := fun u w' hk =>
    ⟨keep a u hy, by rw [← Act.put_comm a v u h2]; exact hk⟩
  unfold wpOpIn at *
  simp only [hj] at *
  rw [wanted_put oj a oi.dst v h1] at h
  by_cases hw : Region.wanted oj (yielded ops a.tmps) = true
  · rw [if_pos hw] at h ⊢
    refine ⟨fun _ _ => trivial, ?_⟩
    have h := h.2
    rw [Oper.semAt_eq _ _ _ hdj, execOp_put oj hsj a oi.dst v h1] at h
    rw [Oper.semAt_eq _ _ _ hdj]
    generalize (execOp a.eval oj).run P w = res at *
    cases res with
    | ok x w' =>
      cases x <;> simp only [Oper.uponIn] at h ⊢
      case value u => exact go u w' h
      case skip => exact go _ w' h
      case defer d =>
        refine ⟨keep _ _ (keepD d), ?_⟩
        rw [← Act.put_comm _ v undef h2, ← Act.put_defers]
        exact h
      case enter f args =>
        refine ⟨h.1, CallsIn.mono h.2 fun e w'' he => ?_⟩
        cases e with
        | returned u => exact go u w'' he
        | panicked c => exact absurd he (hQ _ _ _)
        | outgrown => exact he
      case row row args => exact ⟨h.1, RowsIn.mono h.2 fun u w'' he => go u w'' he⟩
      case round l f tmps assign body =>
        refine ⟨h.1, RoundIn.mono h.2 fun e w'' he => ?_⟩
        cases e with
        | returned u => exact go u w'' he
        | panicked c => exact absurd he (hQ _ _ _)
        | outgrown => exact he
    | halt x w' =>
      cases x <;> simp only [Oper.uponIn] at h ⊢
      case panic u => exact absurd h (hQ _ _ _)
  · rw [if_neg hw] at h ⊢
    exact ⟨fun _ _ => trivial, go _ w h.2⟩
theorem wOp_of_yields {i : Nat} {oi : Oper} {v : Value} {a : Act} {w : World} {K : Act → World → Prop} (T : Tame ops) (hi : ops[i]? = some oi) (hy : YieldsK P ops Kw oi v a) (hKw : Kw w) (h : K (a.put oi.dst v) w) :
    wpOpIn (FR r) 0 P ops Q i K a w := by
  unfold wpOpIn
  simp only [hi]
  rcases hy with ⟨hw, hv⟩ | ⟨hw, rfl⟩
  · rw [if_pos hw]
    refine ⟨fun _ _ => trivial, ?_⟩
    rw [Oper.semAt_eq _ _ _ (fun c => T.dfr i oi c hi), hv w hKw]
    exact h
  · rw [if_neg (by simp [hw])]
    exact ⟨fun _ _ => trivial, h⟩
def FreeAt (ops : Array Oper) (listed : Array Bool) (i : Nat) (oi : Oper) : Prop :=
  ∀ j oj, ops[j]? = some oj → j ≠ i → listed.getD j true = false → (∀ e ∈ oj.after, Region.binds .any e = true → e.on ≠ i) → oi.apart ops oj = true
theorem FreeAt.set {listed : Array Bool} {i j : Nat} {oi : Oper} (h : FreeAt ops listed i oi) (hj : listed.getD j true = false) : FreeAt ops (listed.setIfInBounds j true) i oi := fun k ok hk hki hun hno => by
  refine h k ok hk hki ?_ hno
  by_cases e : j = k
  · subst e; exact hj
  · rw [getD_set_ne true e] at hun; exact hun
theorem ready_no_edge {listed : Array Bool} {i j : Nat} {oj : Oper} (hr : i ∈ Region.ready .any ops listed) (hj : j ∈ Region.ready .any ops listed) (hoj : ops[j]? = some oj) :
    ∀ e ∈ oj.after, Region.binds .any e = true → e.on ≠ i := by
  intro e he hb heq
  obtain ⟨hjun, oj', hoj', hall⟩ := mem_ready.1 hj
  have : oj' = oj := Option.some.inj (hoj'.symm.trans hoj)
  subst this
  have h1 := hall e he hb
  have h0 := (mem_ready.1 hr).1
  rw [heq] at h1
  rcases Nat.lt_or_ge i listed.size with h' | h'
  · simp [h'] at h0 h1; rw [h0] at h1; cases h1
  · simp [Array.getElem?_eq_none h'] at h1
theorem wAny_first {i : Nat} {oi : Oper} {v : Value} (T : Tame ops) (hi : ops[i]? = some oi) (hQ : ∀ c a w, ¬ Q (.panic c) a w) :
    ∀ (fuel : Nat) (listed : Array Bool) (a : Act) (w : World), FreeAt ops listed i oi → i ∈ Region.ready .any ops listed → YieldsK P ops Kw oi v a →
      wpAK r P ops Q Kw fuel (listed.setIfInBounds i true) (a.put oi.dst v) w → wpAK r P ops Q Kw (fuel + 1) listed a w := by
  intro fuel
  induction fuel with
  | zero =>
    intro listed a w _ hr hy H
    refine ⟨H.1, fun h => (by rw [h] at hr; cases hr), fun j hj => ?_⟩
    by_cases hji : j = i
    · subst hji; exact wOp_of_yields T hi hy H.1 H
    · have := ready_mono hj hji
      rw [H.2.1] at this
      cases this
  | succ fuel ih =>
    intro listed a w hfree hr hy H
    refine ⟨H.1, fun h => (by rw [h] at hr; cases hr), fun j hj => ?_⟩
    by_cases hji : j = i
    · subst hji; exact wOp_of_yields T hi hy H.1 H
    · obtain ⟨hjun, oj, hoj, _⟩ := mem_ready.1 hj
      have h2 := wOp_put T (fun cs b => T.sel i oi cs b hi) hoj (hfree j oj hoj hji hjun (ready_no_edge hr hj hoj)) hQ hy (H.2.2 j (ready_mono hj hji))
      refine wpOpIn_mono (fun a' w' h3 => ih (listed.setIfInBounds j true) a' w' (hfree.set hjun) (ready_mono hr (Ne.symm hji)) h3.1 ?_) h2
      rw [Array.setIfInBounds_comm _ _ hji]
      exact h3.2
def wpM (r : Option Nat) (P : Program) (ops : Array Oper) (Q : Post) (Kw : World → Prop) (hs : Nat → Bool) (Cw : World → Prop) : Nat → Array Bool → Act → Prop
  | 0, listed, a => Region.ready .any ops listed = [] ∧ ∀ w, Cw w → Q .normal a w
  | fuel + 1, listed, a => (Region.ready .any ops listed = [] → ∀ w, Cw w → Q .normal a w) ∧ ∀ i ∈ Region.ready .any ops listed,
      (hs i = true → qOp P ops Cw i (wpM r P ops Q Kw hs Cw fuel (listed.setIfInBounds i true)) a) ∧
      (hs i = false → ∀ w, Cw w → wpOpIn (FR r) 0 P ops Q i (wpAK r P ops Q Kw fuel (listed.setIfInBounds i true)) a w)
theorem wOp_of_qOp {i : Nat} {a : Act} {Cw : World → Prop} {K : Act → Prop} {K' : Act → World → Prop} {w : World} (T : Tame ops) (hC : Cw w) (h : ∀ a w', Cw w' → K a → K' a w') (hh : qOp P ops Cw i K a) :
    wpOpIn (FR r) 0 P ops Q i K' a w := by
  unfold qOp at hh
  unfold wpOpIn
  cases ho : ops[i]? with
  | none => simp only [ho] at hh ⊢; exact h _ _ hC hh
  | some o =>
    simp only [ho] at hh ⊢
    by_cases hw : Region.wanted o (yielded ops a.tmps) = true
    · rw [if_pos hw] at hh ⊢
      obtain ⟨v, h1, h2⟩ := hh
      refine ⟨fun _ _ => trivial, ?_⟩
      rw [Oper.semAt_eq _ _ _ (fun c => T.dfr i o c ho)]
      have h3 := h1 w hC
      unfold Oper.quietAt at h3
      generalize (execOp a.eval o).run P w = res at *
      cases res with
      | ok n w' =>
        cases n <;> simp only [Oper.quietUpon] at h3 <;> simp only [Oper.uponIn]
        case value u => obtain ⟨e1, e2⟩ := h3; rw [e1, e2]; exact h _ _ hC h2
        case skip => obtain ⟨e1, e2⟩ := h3; rw [e1, ← e2]; exact h _ _ hC h2
        case enter f args =>
          obtain ⟨e1, hc⟩ := h3
          rw [e1]
          refine ⟨fun h => (by cases h), (callsIn_wide (n := 0 - 1)).2 (hc.mono fun e w'' ⟨he, hw''⟩ => ?_)⟩
          subst he
          exact h _ _ hw'' h2
      | halt x w' => simp only [Oper.quietUpon] at h3
    · rw [if_neg hw] at hh ⊢
      exact ⟨fun _ _ => trivial, h _ _ hC hh⟩
theorem wAny_of_wpM {hs : Nat → Bool} {Cw : World → Prop} (T : Tame ops) (hK : ∀ w, Cw w → Kw w) : ∀ (fuel : Nat) (listed : Array Bool) (a : Act) (w : World), Cw w → wpM r P ops Q Kw hs Cw fuel listed a → wpAK r P ops Q Kw fuel listed a w
  | 0, _, _, w, hC, h => ⟨hK w hC, h.1, h.2 w hC⟩
  | fuel + 1, listed, a, w, hC, h => ⟨hK w hC, fun h0 => h.1 h0 w hC, fun i hi => by
      cases hb : hs i with
      | true => exact wOp_of_qOp T hC (fun a' w' hC' hk => wAny_of_wpM T hK fuel _ a' w' hC' hk) ((h.2 i hi).1 hb)
      | false => exact (h.2 i hi).2 hb w hC⟩
def Closed (ops : Array Oper) (listed : Array Bool) : Prop := ∀ j oj, ops[j]? = some oj → listed.getD j false = true → ∀ e ∈ oj.after, Region.binds .any e = true → listed.getD e.on false = true
theorem Closed.set {listed : Array Bool} {i : Nat} (h : Closed ops listed) (hi : i ∈ Region.ready .any ops listed) : Closed ops (listed.setIfInBounds i true) := by
  intro j oj hj hl e he hb
  by_cases hij : i = j
  · subst hij
    obtain ⟨_, oi, hoi, hall⟩ := mem_ready.1 hi
    have : oi = oj := Option.some.inj (hoi.symm.trans hj)
    subst this
    exact getD_set_true (hall e he hb)
  · rw [getD_set_ne false hij] at hl
    exact getD_set_true (h j oj hj hl e he hb)
def Wait (ops : Array Oper) (i : Nat) (ds : List Nat) : Prop := ∀ j ∈ ds, ∃ oj, ops[j]? = some oj ∧ ∃ e ∈ oj.after, Region.binds .any e = true ∧ e.on < j ∧ (e.on = i ∨ e.on ∈ ds)
theorem Wait.unlisted {i : Nat} {ds : List Nat} {listed : Array Bool} (h : Wait ops i ds) (hc : Closed ops listed) (hi : listed.getD i false = false) : ∀ j ∈ ds, listed.getD j false = false := by
  intro j
  induction j using Nat.strongRecOn with
  | _ j ih =>
    intro hj
    cases hb : listed.getD j false with
    | false => rfl
    | true =>
      obtain ⟨oj, hoj, e, he, hbd, hlt, hd⟩ := h j hj
      have h1 := hc j oj hoj hb e he hbd
      rcases hd with hd | hd
      · rw [hd, hi] at h1; cases h1
      · rw [ih e.on hlt hd] at h1; cases h1
theorem Wait.notReady {i : Nat} {ds : List Nat} {listed : Array Bool} (h : Wait ops i ds) (hc : Closed ops listed) (hi : listed.getD i false = false) {j : Nat} (hj : j ∈ ds) : j ∉ Region.ready .any ops listed := by
  intro hr
  obtain ⟨oj, hoj, e, he, hbd, hlt, hd⟩ := h j hj
  obtain ⟨_, oj', hoj', hall⟩ := mem_ready.1 hr
  have : oj' = oj := Option.some.inj (hoj'.symm.trans hoj)
  subst this
  have h1 := hall e he hbd
  rcases hd with hd | hd
  · rw [hd, hi] at h1; cases h1
  · rw [h.unlisted hc hi e.on hd] at h1; cases h1
theorem unlisted_false {listed : Array Bool} {i : Nat} (h : listed.getD i true = false) : listed.getD i false = false := by
  rcases Nat.lt_or_ge i listed.size with h' | h'
  · simp [h'] at h ⊢; exact h
  · simp [Array.getElem?_eq_none h'] at h
theorem wpM_first {i : Nat} {oi : Oper} {v : Value} {hs : Nat → Bool} {Cw : World → Prop} (T : Tame ops) (hi : ops[i]? = some oi) (hQ : ∀ c a w, ¬ Q (.panic c) a w) (hsi : hs i = true) (pure : Prop) {ds : List Nat} (hw : Wait ops i ds) :
    ∀ (fuel : Nat) (listed : Array Bool) (a : Act), FreeAt ops listed i oi → i ∈ Region.ready .any ops listed → Closed ops listed →
      (pure ∨ ∀ j oj, ops[j]? = some oj → listed.getD j true = false → hs j = false → j ∈ ds) →
      YieldsIn P ops Cw oi v a → (pure → YieldsK P ops Kw oi v a) →
      wpM r P ops Q Kw hs Cw fuel (listed.setIfInBounds i true) (a.put oi.dst v) → wpM r P ops Q Kw hs Cw (fuel + 1) listed a := by
  intro fuel
  induction fuel with
  | zero =>
    intro listed a _ hr _ _ hy _ H
    refine ⟨fun h => (by rw [h] at hr; cases hr), fun j hj => ?_⟩
    by_cases hji : j = i
    · subst hji; exact ⟨fun _ => hy.qOp hi H, fun h => (by rw [hsi] at h; cases h)⟩
    · have := ready_mono hj hji
      rw [H.1] at this
      cases this
  | succ fuel ih =>
    intro listed a hfree hr hcl hp hy hyp H
    refine ⟨fun h => (by rw [h] at hr; cases hr), fun j hj => ?_⟩
    by_cases hji : j = i
    · subst hji; exact ⟨fun _ => hy.qOp hi H, fun h => (by rw [hsi] at h; cases h)⟩
    · obtain ⟨hjun, oj, hoj, _⟩ := mem_ready.1 hj
      have hap := hfree j oj hoj hji hjun (ready_no_edge hr hj hoj)
      obtain ⟨h1, h2, h3⟩ := Oper.apart_spec hap
      have hsel := fun cs b => T.sel i oi cs b hi
      have hselj := fun cs b => T.sel j oj cs b hoj
      refine ⟨fun hb => ?_, fun hb => ?_⟩
      · obtain ⟨u, hu, hK⟩ := yieldsIn_of_qOp hoj (((H.2 j (ready_mono hj hji)).1 hb))
        have hu' : YieldsIn P ops Cw oj u a := hu.of_same (execOp_put oj hselj a oi.dst v h1).symm (wanted_put oj a oi.dst v h1).symm
        refine hu'.qOp hoj (ih _ _ (hfree.set hjun) (ready_mono hr (Ne.symm hji)) (hcl.set hj) ?_ ?_ ?_ ?_)
        · rcases hp with hp | hp
          · exact .inl hp
          · refine .inr fun k ok hk hun hsk => hp k ok hk ?_ hsk
            by_cases e : j = k
            · subst e; exact hjun
            · rw [getD_set_ne true e] at hun; exact hun
        · exact hy.of_same (execOp_put oi hsel a oj.dst u h3) (wanted_put oi a oj.dst u h3)
        · exact fun p => (hyp p).of_same (execOp_put oi hsel a oj.dst u h3) (wanted_put oi a oj.dst u h3)
        · rw [← Act.put_comm a v u h2, Array.setIfInBounds_comm _ _ hji]; exact hK
      · intro w hC
        have hpu : pure := by
          rcases hp with hp | hp
          · exact hp
          · exact absurd hj (hw.notReady hcl (unlisted_false (mem_ready.1 hr).1) (hp j oj hoj hjun hb))
        have h4 := wOp_put T hsel hoj hap hQ (hyp hpu) ((H.2 j (ready_mono hj hji)).2 hb w hC)
        refine wpOpIn_mono (fun a' w' h5 => wAny_first T hi hQ fuel _ a' w' (hfree.set hjun) (ready_mono hr (Ne.symm hji)) h5.1 ?_) h4
        rw [Array.setIfInBounds_comm _ _ hji]
        exact h5.2
end draws
def dsOf (ops : Array Oper) (i : Nat) : List Nat :=
  (List.range ops.size).foldl (fun ds j => match ops[j]? with
    | some oj => if oj.after.any (fun e => Region.binds .any e && decide (e.on < j) && (e.on == i || ds.contains e.on)) then j :: ds else ds
    | none => ds) []
def waitB (ops : Array Oper) (i : Nat) (ds : List Nat) : Bool :=
  ds.all fun j => match ops[j]? with
    | some oj => oj.after.any fun e => Region.binds .any e && decide (e.on < j) && (e.on == i || ds.contains e.on)
    | none => false
theorem waitB_spec {ops : Array Oper} {i : Nat} {ds : List Nat} (h : waitB ops i ds = true) : Wait ops i ds := by
  intro j hj
  have h1 := List.all_eq_true.1 h j hj
  split at h1
  · rename_i oj hoj
    obtain ⟨e, he, hb⟩ := Array.any_eq_true'.1 h1
    simp only [Bool.and_eq_true, Bool.or_eq_true, beq_iff_eq, decide_eq_true_eq, List.contains_iff_mem] at hb
    exact ⟨oj, hoj, e, he, hb.1.1, hb.1.2, hb.2⟩
  · cases h1
def kindAt (ks : List Nat) (i : Nat) : Nat := (nth ks i).getD 2
def hsOf (ks : List Nat) (i : Nat) : Bool := Nat.blt (kindAt ks i) 2 || Nat.beq (kindAt ks i) 5
theorem hsOf_of {ks : List Nat} {i : Nat} (h : Nat.blt (kindAt ks i) 2 = true) : hsOf ks i = true := by simp [hsOf, h]
def chk (ops : Array Oper) (ks : List Nat) : List Nat → Array Bool → Bool
  | [], listed => (Region.ready .any ops listed).isEmpty
  | i :: rest, listed =>
    (match kindAt ks i with
      | 0 => Region.free .any ops listed i && (Region.ready .any ops listed).contains i
      | 1 => Region.free .any ops listed i && (Region.ready .any ops listed).contains i && waitB ops i (dsOf ops i) &&
          (List.range ops.size).all fun j => listed.getD j true || hsOf ks j || (dsOf ops i).contains j
      | 3 => (match rest with
          | j :: _ => (Region.ready .any ops listed == [i, j] || Region.ready .any ops listed == [j, i]) && (Region.ready .any ops (listed.setIfInBounds i true) == [j]) &&
              (Region.ready .any ops (listed.setIfInBounds j true) == [i]) && Nat.beq (kindAt ks j) 4
          | [] => false)
      | 4 => true
      | 5 => Region.free .any ops listed i && (Region.ready .any ops listed).contains i
      | _ => Region.ready .any ops listed == [i]) && chk ops ks rest (listed.setIfInBounds i true)
structure JX (C : Ctx) (opl : List Oper) (Q : Post) (kp : List HP) (ks order : List Nat) (g : Regs) (l : List HP) : Prop where
  out : Tame opl.toArray → (∀ c a w, ¬ Q (.panic c) a w) → (∀ w, Sat C.W (l ++ C.fr) w → Sat C.W kp w) → ∀ listed, chk opl.toArray ks order listed = true → Closed opl.toArray listed →
    ∀ a, Fits C g a → wpM C.r C.P opl.toArray Q (Sat C.W kp) (hsOf ks) (Sat C.W (l ++ C.fr)) order.length listed a
def NP (Q : Post) : Post := fun e a w => match e with
  | .panic _ => False
  | _ => Q e a w
theorem J_drawk {C : Ctx} {opl : List Oper} {Q : Post} {g : Regs} {l : List HP} {id : Nat} (kp : List HP) (hkp : ∀ H, Stars l H → Stars kp H) (ks order : List Nat) (hm : C.P.follows .mixedOrders = true)
    (hc : (tameB opl.toArray && Nat.beq order.length opl.length && chk opl.toArray ks order (Array.replicate opl.length false)) = true)
    (h : JX C opl (NP Q) kp ks order g l) : J C (.region id opl.toArray true) Q g l := by
  simp only [Bool.and_eq_true] at hc
  obtain ⟨⟨ht, hlen⟩, hc⟩ := hc
  refine ⟨fun a w hf hs => ?_⟩
  have T := tameB_spec ht
  have hcl : Closed opl.toArray (Array.replicate opl.length false) := by
    intro j oj hj hl
    exfalso
    rcases Nat.lt_or_ge j opl.length with h' | h'
    · simp [h'] at hl
    · simp [h'] at hl
  have hK : ∀ w, Sat C.W (l ++ C.fr) w → Sat C.W kp w := fun w hw => hw.to fun H k => hkp H k.left
  have h1 := h.out T (fun c a w h => h) hK _ hc hcl a hf
  refine wpIn_mono (Q := NP Q) ?_ (fun e a w hq => by cases e <;> first | exact hq | exact hq.elim)
  refine wpIn_region_any hm ?_
  have e : opl.toArray.size = order.length := by simpa using (Nat.eq_of_beq_eq_true hlen).symm
  rw [e]
  have e2 : Array.replicate order.length false = Array.replicate opl.length false := by rw [Nat.eq_of_beq_eq_true hlen]
  rw [e2]
  exact (wAny_of_wpM T hK _ _ a _ (hs.drawn _) h1).any
theorem J_draw {C : Ctx} {opl : List Oper} {Q : Post} {g : Regs} {l : List HP} {id : Nat} (ks order : List Nat) (hm : C.P.follows .mixedOrders = true)
    (hc : (tameB opl.toArray && Nat.beq order.length opl.length && chk opl.toArray ks order (Array.replicate opl.length false)) = true)
    (h : JX C opl (NP Q) [] ks order g l) : J C (.region id opl.toArray true) Q g l := J_drawk [] (fun _ _ => trivial) ks order hm hc h
structure OpK (C : Ctx) (g : Regs) (kp : List HP) (o : Op) (v : Value) : Prop where
  out : ∀ (dst : Option Tmp) (ty : TypeId) (pos : String) (af : Array Edge) (gd : Option (Nat × Bool)) (a : Act), Fits C g a → ∀ w, Sat C.W kp w →
    (execOp a.eval ⟨dst, o, ty, pos, af, gd⟩).run C.P w = .ok (.value v) w
section rules
variable {C : Ctx} {opl : List Oper} {Q : Post} {kp : List HP} {ks rest : List Nat} {g : Regs} {l : List HP} {i : Nat} {o : Op} {ty : TypeId} {pos : String} {af : Array Edge} {gd : Option (Nat × Bool)} {d : Tmp} {dst : Option Tmp}
theorem JX_nil (h : At C (Q .normal) g l) : JX C opl Q kp ks [] g l := by
  refine ⟨fun T hQ hK listed hc hcl a hf => ?_⟩
  simp only [chk, List.isEmpty_iff] at hc
  exact ⟨hc, fun w hw => h.out a w hf hw⟩
theorem At_np {g' : Regs} (h : At C (Q .normal) g' l) : At C (NP Q .normal) g' l := ⟨h.out⟩
theorem JX_take {v : Value} {g' : Regs} (hi : nth opl i = some ⟨dst, o, ty, pos, af, gd⟩) (hk : hsOf ks i = true)
    (hy : ∀ a, Fits C g a → YieldsIn C.P opl.toArray (Sat C.W (l ++ C.fr)) ⟨dst, o, ty, pos, af, gd⟩ v a)
    (hp : kindAt ks i ≠ 1 → ∀ a, Fits C g a → YieldsK C.P opl.toArray (Sat C.W kp) ⟨dst, o, ty, pos, af, gd⟩ v a)
    (hg : ∀ a, Fits C g a → Fits C g' (a.put dst v)) (k : JX C opl Q kp ks rest g' l) : JX C opl Q kp ks (i :: rest) g l := by
  refine ⟨fun T hQ hK listed hc hcl a hf => ?_⟩
  have hi' : opl.toArray[i]? = some ⟨dst, o, ty, pos, af, gd⟩ := by rw [List.getElem?_toArray, ← nth_eq]; exact hi
  simp only [chk, Bool.and_eq_true] at hc
  obtain ⟨hc1, hc2⟩ := hc
  have hlt : kindAt ks i < 2 ∨ kindAt ks i = 5 := by
    simp only [hsOf, Bool.or_eq_true] at hk
    rcases hk with hk | hk
    · exact .inl (Nat.blt_eq ▸ hk)
    · exact .inr (Nat.eq_of_beq_eq_true hk)
  have hready : i ∈ Region.ready .any opl.toArray listed ∧ Region.free .any opl.toArray listed i = true := by
    split at hc1
    · simp only [Bool.and_eq_true, List.contains_iff_mem] at hc1; exact ⟨hc1.2, hc1.1⟩
    · simp only [Bool.and_eq_true, List.contains_iff_mem] at hc1; exact ⟨hc1.1.1.2, hc1.1.1.1⟩
    · exfalso; omega
    · exfalso; omega
    · simp only [Bool.and_eq_true, List.contains_iff_mem] at hc1; exact ⟨hc1.2, hc1.1⟩
    · rename_i h0 h1 _ _ h5
      have : kindAt ks i = 0 ∨ kindAt ks i = 1 ∨ kindAt ks i = 5 := by omega
      rcases this with e | e | e
      · exact absurd e h0
      · exact absurd e h1
      · exact absurd e h5
  have hrest := k.out T hQ hK _ hc2 (hcl.set hready.1) _ (hg a hf)
  by_cases h1 : kindAt ks i = 1
  case neg => exact wpM_first T hi' hQ hk True (ds := []) (fun _ h => by cases h) _ listed a (Region.free_spec hi' hready.2) hready.1 hcl (.inl trivial) (hy a hf) (fun _ => hp h1 a hf) hrest
  case pos =>
    simp only [h1, Bool.and_eq_true, List.all_eq_true, List.mem_range, Bool.or_eq_true, List.contains_iff_mem] at hc1
    refine wpM_first T hi' hQ hk False (ds := dsOf opl.toArray i) (waitB_spec hc1.1.2) _ listed a (Region.free_spec hi' hready.2) hready.1 hcl (.inr fun j oj hj hun hsj => ?_) (hy a hf) (fun p => p.elim) hrest
    have h2 := hc1.2 j (Array.getElem?_eq_some_iff.1 hj).1
    rcases h2 with (h2 | h2) | h2
    · rw [hun] at h2; cases h2
    · rw [hsj] at h2; cases h2
    · exact h2
theorem JX_val {v : Value} (hi : nth opl i = some ⟨some d, o, ty, pos, af, gd⟩) (hk : Nat.blt (kindAt ks i) 2 = true) (h : OpV C g o v) (hw : gw opl g gd = some true) (hN : Nat.blt d C.N = true) (k : JX C opl Q kp ks rest ((d, v) :: g) l) : JX C opl Q kp ks (i :: rest) g l :=
  JX_take hi (hsOf_of hk) (fun a hf => .inl ⟨gw_true (o := ⟨some d, o, ty, pos, af, gd⟩) hf hw, fun w _ => by unfold Oper.quietAt; rw [h.2 _ _ _ _ _ a w hf]; exact ⟨rfl, rfl⟩⟩)
    (fun _ a hf => .inl ⟨gw_true (o := ⟨some d, o, ty, pos, af, gd⟩) hf hw, fun w _ => h.2 _ _ _ _ _ a w hf⟩) (fun a hf => hf.put hN) k
theorem JX_v {v : Value} (hi : nth opl i = some ⟨some d, o, ty, pos, af, gd⟩) (hk : Nat.blt (kindAt ks i) 2 = true) (h : pureOp C.ti g o = some v) (hw : gw opl g gd = some true) (hN : Nat.blt d C.N = true) (k : JX C opl Q kp ks rest ((d, v) :: g) l) : JX C opl Q kp ks (i :: rest) g l :=
  JX_val hi hk (pureOp_sound h) hw hN k
theorem JX_skip (hi : nth opl i = some ⟨some d, o, ty, pos, af, gd⟩) (hk : Nat.blt (kindAt ks i) 2 = true) (hw : gw opl g gd = some false) (hN : Nat.blt d C.N = true) (k : JX C opl Q kp ks rest ((d, undef) :: g) l) : JX C opl Q kp ks (i :: rest) g l :=
  JX_take hi (hsOf_of hk) (fun a hf => .inr ⟨gw_false (o := ⟨some d, o, ty, pos, af, gd⟩) hf hw, rfl⟩) (fun _ a hf => .inr ⟨gw_false (o := ⟨some d, o, ty, pos, af, gd⟩) hf hw, rfl⟩) (fun a hf => hf.put hN) k
theorem JX_q {v : Value} (hi : nth opl i = some ⟨some d, o, ty, pos, af, gd⟩) (hk : kindAt ks i = 1) (h : OpQ C g l o v) (hw : gw opl g gd = some true) (hN : Nat.blt d C.N = true) (k : JX C opl Q kp ks rest ((d, v) :: g) l) : JX C opl Q kp ks (i :: rest) g l :=
  JX_take hi (hsOf_of (by rw [hk]; rfl)) (fun a hf => .inl ⟨gw_true (o := ⟨some d, o, ty, pos, af, gd⟩) hf hw, fun w hs => h.out _ _ _ _ _ a hf w hs⟩)
    (fun h0 => absurd hk h0) (fun a hf => hf.put hN) k
theorem JX_loudk {R : Value → List HP → Prop} {g' : Value → Regs} (hi : nth opl i = some ⟨dst, o, ty, pos, af, gd⟩) (hk : kindAt ks i = 2) (h : OpL C g l o R) (hw : gw opl g gd = some true)
    (hg : ∀ v a, Fits C g a → Fits C (g' v) (a.put dst v)) (hkp : ∀ v l', R v l' → ∀ H, Stars l' H → Stars kp H) (k : ∀ v l', R v l' → (∃ w, Sat C.W (l' ++ C.fr) w) → JX C opl Q kp ks rest (g' v) l') : JX C opl Q kp ks (i :: rest) g l := by
  refine ⟨fun T hQ hK listed hc hcl a hf => ?_⟩
  have hi' : opl.toArray[i]? = some ⟨dst, o, ty, pos, af, gd⟩ := by rw [List.getElem?_toArray, ← nth_eq]; exact hi
  simp only [chk, hk, Bool.and_eq_true, beq_iff_eq] at hc
  obtain ⟨hc1, hc2⟩ := hc
  have hr : i ∈ Region.ready .any opl.toArray listed := by rw [hc1]; exact List.mem_cons_self ..
  have hns : hsOf ks i = false := by unfold hsOf; rw [hk]; rfl
  refine ⟨fun h0 => (by rw [hc1] at h0; cases h0), fun j hj => ?_⟩
  rw [hc1] at hj
  have : j = i := by simpa using hj
  subst this
  refine ⟨fun hb => (by rw [hns] at hb; cases hb), fun _ w hC => ?_⟩
  unfold wpOpIn
  simp only [hi']
  rw [if_pos (gw_true (o := ⟨dst, o, ty, pos, af, gd⟩) hf hw)]
  refine wpIn_of_upon h.nd (h.out _ _ _ _ _ a w hf hC _ _ fun v l' w' hrr hs' => ?_)
  have hK' : ∀ w, Sat C.W (l' ++ C.fr) w → Sat C.W kp w := fun w hw => hw.to fun H k => hkp v l' hrr H k.left
  exact wAny_of_wpM T hK' _ _ _ _ hs' ((k v l' hrr ⟨w', hs'⟩).out T hQ hK' _ hc2 (hcl.set hr) _ (hg v a hf))
theorem JX_loud {R : Value → List HP → Prop} {g' : Value → Regs} (hi : nth opl i = some ⟨dst, o, ty, pos, af, gd⟩) (hk : kindAt ks i = 2) (h : OpL C g l o R) (hw : gw opl g gd = some true)
    (hg : ∀ v a, Fits C g a → Fits C (g' v) (a.put dst v)) (k : ∀ v l', R v l' → JX C opl Q [] ks rest (g' v) l') : JX C opl Q [] ks (i :: rest) g l := JX_loudk hi hk h hw hg (fun _ _ _ _ _ => trivial) (fun v l' hr _ => k v l' hr)
theorem JX_l {R : Value → List HP → Prop} (hi : nth opl i = some ⟨some d, o, ty, pos, af, gd⟩) (hk : kindAt ks i = 2) (h : OpL C g l o R) (hw : gw opl g gd = some true) (hN : Nat.blt d C.N = true)
    (k : ∀ v l', R v l' → JX C opl Q [] ks rest ((d, v) :: g) l') : JX C opl Q [] ks (i :: rest) g l :=
  JX_loud hi hk h hw (fun v a hf => hf.put hN) k
theorem JX_l0 {R : Value → List HP → Prop} (hi : nth opl i = some ⟨none, o, ty, pos, af, gd⟩) (hk : kindAt ks i = 2) (h : OpL C g l o R) (hw : gw opl g gd = some true)
    (k : ∀ v l', R v l' → JX C opl Q [] ks rest g l') : JX C opl Q [] ks (i :: rest) g l :=
  JX_loud (g' := fun _ => g) hi hk h hw (fun v a hf => hf) k
theorem JX_lk {R : Value → List HP → Prop} (hi : nth opl i = some ⟨some d, o, ty, pos, af, gd⟩) (hk : kindAt ks i = 2) (h : OpL C g l o R) (hw : gw opl g gd = some true) (hN : Nat.blt d C.N = true)
    (hkp : ∀ v l', R v l' → ∀ H, Stars l' H → Stars kp H) (k : ∀ v l', R v l' → (∃ w, Sat C.W (l' ++ C.fr) w) → JX C opl Q kp ks rest ((d, v) :: g) l') : JX C opl Q kp ks (i :: rest) g l :=
  JX_loudk hi hk h hw (fun v a hf => hf.put hN) hkp k
theorem JX_l0k {R : Value → List HP → Prop} (hi : nth opl i = some ⟨none, o, ty, pos, af, gd⟩) (hk : kindAt ks i = 2) (h : OpL C g l o R) (hw : gw opl g gd = some true)
    (hkp : ∀ v l', R v l' → ∀ H, Stars l' H → Stars kp H) (k : ∀ v l', R v l' → (∃ w, Sat C.W (l' ++ C.fr) w) → JX C opl Q kp ks rest g l') : JX C opl Q kp ks (i :: rest) g l :=
  JX_loudk (g' := fun _ => g) hi hk h hw (fun v a hf => hf) hkp k
theorem JX_kept {v : Value} (hi : nth opl i = some ⟨some d, o, ty, pos, af, gd⟩) (hk : kindAt ks i = 5) (h : OpK C g kp o v) (hw : gw opl g gd = some true) (hN : Nat.blt d C.N = true) (k : JX C opl Q kp ks rest ((d, v) :: g) l) : JX C opl Q kp ks (i :: rest) g l := by
  refine ⟨fun T hQ hK listed hc hcl a hf => ?_⟩
  exact (JX_take hi (by simp [hsOf, hk]) (fun a hf => .inl ⟨gw_true (o := ⟨some d, o, ty, pos, af, gd⟩) hf hw, fun w hs => by unfold Oper.quietAt; rw [h.out _ _ _ _ _ a hf w (hK w hs)]; exact ⟨rfl, rfl⟩⟩)
    (fun _ a hf => .inl ⟨gw_true (o := ⟨some d, o, ty, pos, af, gd⟩) hf hw, fun w hs => h.out _ _ _ _ _ a hf w hs⟩) (fun a hf => hf.put hN) k).out T hQ hK listed hc hcl a hf
theorem JX_mt {x : Operand} {φ : Prop} [Decidable φ] (hi : nth opl i = some ⟨some d, .move x, ty, pos, af, gd⟩) (hk : Nat.blt (kindAt ks i) 2 = true) (h : ev g x = some (.bool (decide φ))) (e : φ) (hw : gw opl g gd = some true) (hN : Nat.blt d C.N = true) (k : JX C opl Q kp ks rest ((d, .bool true) :: g) l) : JX C opl Q kp ks (i :: rest) g l :=
  JX_v (v := .bool true) hi hk (by show ev g x = _; simpa [e] using h) hw hN k
theorem JX_mf {x : Operand} {φ : Prop} [Decidable φ] (hi : nth opl i = some ⟨some d, .move x, ty, pos, af, gd⟩) (hk : Nat.blt (kindAt ks i) 2 = true) (h : ev g x = some (.bool (decide φ))) (e : ¬ φ) (hw : gw opl g gd = some true) (hN : Nat.blt d C.N = true) (k : JX C opl Q kp ks rest ((d, .bool false) :: g) l) : JX C opl Q kp ks (i :: rest) g l :=
  JX_v (v := .bool false) hi hk (by show ev g x = _; simpa [e] using h) hw hN k
theorem JX_mb {x : Operand} {φ : Prop} [Decidable φ] (hi : nth opl i = some ⟨some d, .move x, ty, pos, af, gd⟩) (hk : Nat.blt (kindAt ks i) 2 = true) (h : ev g x = some (.bool (decide φ))) (hw : gw opl g gd = some true) (hN : Nat.blt d C.N = true) (k1 : φ → JX C opl Q kp ks rest ((d, .bool true) :: g) l) (k2 : ¬ φ → JX C opl Q kp ks rest ((d, .bool false) :: g) l) : JX C opl Q kp ks (i :: rest) g l := by
  by_cases e : φ
  · exact JX_mt hi hk h e hw hN (k1 e)
  · exact JX_mf hi hk h e hw hN (k2 e)
theorem JX_nt {x : Operand} {φ : Prop} [Decidable φ] (hi : nth opl i = some ⟨some d, .move x, ty, pos, af, gd⟩) (hk : Nat.blt (kindAt ks i) 2 = true) (h : ev g x = some (.bool (!decide φ))) (e : ¬ φ) (hw : gw opl g gd = some true) (hN : Nat.blt d C.N = true) (k : JX C opl Q kp ks rest ((d, .bool true) :: g) l) : JX C opl Q kp ks (i :: rest) g l :=
  JX_v (v := .bool true) hi hk (by show ev g x = _; simpa [e] using h) hw hN k
theorem JX_nf {x : Operand} {φ : Prop} [Decidable φ] (hi : nth opl i = some ⟨some d, .move x, ty, pos, af, gd⟩) (hk : Nat.blt (kindAt ks i) 2 = true) (h : ev g x = some (.bool (!decide φ))) (e : φ) (hw : gw opl g gd = some true) (hN : Nat.blt d C.N = true) (k : JX C opl Q kp ks rest ((d, .bool false) :: g) l) : JX C opl Q kp ks (i :: rest) g l :=
  JX_v (v := .bool false) hi hk (by show ev g x = _; simpa [e] using h) hw hN k
theorem JX_nb {x : Operand} {φ : Prop} [Decidable φ] (hi : nth opl i = some ⟨some d, .move x, ty, pos, af, gd⟩) (hk : Nat.blt (kindAt ks i) 2 = true) (h : ev g x = some (.bool (!decide φ))) (hw : gw opl g gd = some true) (hN : Nat.blt d C.N = true) (k1 : ¬ φ → JX C opl Q kp ks rest ((d, .bool true) :: g) l) (k2 : φ → JX C opl Q kp ks rest ((d, .bool false) :: g) l) : JX C opl Q kp ks (i :: rest) g l := by
  by_cases e : φ
  · exact JX_nf hi hk h e hw hN (k2 e)
  · exact JX_nt hi hk h e hw hN (k1 e)
theorem wpM_one {R : Value → List HP → Prop} {g' : Value → Regs} {listed : Array Bool} {fuel : Nat} {a : Act} (T : Tame opl.toArray) (hcl : Closed opl.toArray listed) (hr : Region.ready .any opl.toArray listed = [i])
    (hi : nth opl i = some ⟨dst, o, ty, pos, af, gd⟩) (hk : hsOf ks i = false) (h : OpL C g l o R) (hw : gw opl g gd = some true) (hg : ∀ v a, Fits C g a → Fits C (g' v) (a.put dst v)) (hf : Fits C g a)
    (k : ∀ v l' a', R v l' → Fits C (g' v) a' → Closed opl.toArray (listed.setIfInBounds i true) → wpM C.r C.P opl.toArray Q (Sat C.W []) (hsOf ks) (Sat C.W (l' ++ C.fr)) fuel (listed.setIfInBounds i true) a') :
    wpM C.r C.P opl.toArray Q (Sat C.W []) (hsOf ks) (Sat C.W (l ++ C.fr)) (fuel + 1) listed a := by
  have hi' : opl.toArray[i]? = some ⟨dst, o, ty, pos, af, gd⟩ := by rw [List.getElem?_toArray, ← nth_eq]; exact hi
  have hri : i ∈ Region.ready .any opl.toArray listed := by rw [hr]; exact List.mem_cons_self ..
  have hns : hsOf ks i = false := hk
  refine ⟨fun h0 => (by rw [hr] at h0; cases h0), fun j hj => ?_⟩
  rw [hr] at hj
  have : j = i := by simpa using hj
  subst this
  refine ⟨fun hb => (by rw [hns] at hb; cases hb), fun _ w hC => ?_⟩
  unfold wpOpIn
  simp only [hi']
  rw [if_pos (gw_true (o := ⟨dst, o, ty, pos, af, gd⟩) hf hw)]
  refine wpIn_of_upon h.nd (h.out _ _ _ _ _ a w hf hC _ _ fun v l' w' hrr hs' => ?_)
  exact wAny_of_wpM T (fun _ hw => hw.to fun _ _ => trivial) _ _ _ _ hs' (k v l' _ hrr (hg v a hf) (hcl.set hri))
theorem JX_two {j : Nat} {o2 : Op} {ty2 : TypeId} {pos2 : String} {af2 : Array Edge} {gd2 : Option (Nat × Bool)} {d2 : Tmp} {R : Value → Value → List HP → Prop}
    (hi : nth opl i = some ⟨some d, o, ty, pos, af, gd⟩) (hj : nth opl j = some ⟨some d2, o2, ty2, pos2, af2, gd2⟩) (hk : kindAt ks i = 3) (hk2 : kindAt ks j = 4) (hd : Nat.beq d d2 = false)
    (hw : gw opl g gd = some true) (hw2 : gw opl g gd2 = some true) (hw' : ∀ v, gw opl ((d2, v) :: g) gd = some true) (hw2' : ∀ v, gw opl ((d, v) :: g) gd2 = some true) (hN : Nat.blt d C.N = true) (hN2 : Nat.blt d2 C.N = true)
    (h1 : OpL C g l o (fun v l1 => OpL C ((d, v) :: g) l1 o2 (fun u l2 => R v u l2))) (h2 : OpL C g l o2 (fun u l1 => OpL C ((d2, u) :: g) l1 o (fun v l2 => R v u l2)))
    (k : ∀ v u l', R v u l' → JX C opl Q [] ks rest ((d2, u) :: (d, v) :: g) l') : JX C opl Q [] ks (i :: j :: rest) g l := by
  refine ⟨fun T hQ hK listed hc hcl a hf => ?_⟩
  have hi' : opl.toArray[i]? = some ⟨some d, o, ty, pos, af, gd⟩ := by rw [List.getElem?_toArray, ← nth_eq]; exact hi
  have hj' : opl.toArray[j]? = some ⟨some d2, o2, ty2, pos2, af2, gd2⟩ := by rw [List.getElem?_toArray, ← nth_eq]; exact hj
  simp only [chk, hk, hk2, Bool.and_eq_true, Bool.or_eq_true, beq_iff_eq] at hc
  obtain ⟨⟨⟨⟨hr, hri⟩, hrj⟩, _⟩, _, hc2⟩ := hc
  have hmem : ∀ m, m ∈ Region.ready .any opl.toArray listed ↔ m = i ∨ m = j := fun m => by rcases hr with e | e <;> rw [e] <;> simp [or_comm]
  have hir : i ∈ Region.ready .any opl.toArray listed := (hmem i).2 (.inl rfl)
  have hjr : j ∈ Region.ready .any opl.toArray listed := (hmem j).2 (.inr rfl)
  have hne : i ≠ j := fun e => by subst e; rw [hk] at hk2; cases hk2
  have hnsi : hsOf ks i = false := by unfold hsOf; rw [hk]; rfl
  have hnsj : hsOf ks j = false := by unfold hsOf; rw [hk2]; rfl
  have hdd : d ≠ d2 := fun e => by subst e; simp at hd
  have swap : ∀ {v u : Value} {a' : Act}, Fits C ((d, v) :: (d2, u) :: g) a' → Fits C ((d2, u) :: (d, v) :: g) a' := fun {v u a'} h => by
    refine ⟨h.1, h.2.1, fun t x e => h.2.2 t x ?_⟩
    simp only [look] at e ⊢
    by_cases e1 : d2 = t
    · subst e1
      have : Nat.beq d d2 = false := hd
      simp only [this, Nat.beq_refl] at e ⊢
      exact e
    · have e2 : Nat.beq d2 t = false := by
        cases hb : Nat.beq d2 t with
        | false => rfl
        | true => exact absurd (Nat.eq_of_beq_eq_true hb) e1
      simp only [e2] at e ⊢
      exact e
  refine ⟨fun h0 => (by rw [h0] at hir; cases hir), fun m hm => ?_⟩
  rcases (hmem m).1 hm with e | e <;> subst e
  · refine ⟨fun hb => (by rw [hnsi] at hb; cases hb), fun _ w hC => ?_⟩
    unfold wpOpIn
    simp only [hi']
    rw [if_pos (gw_true (o := ⟨some d, o, ty, pos, af, gd⟩) hf hw)]
    refine wpIn_of_upon h1.nd (h1.out _ _ _ _ _ a w hf hC _ _ fun v l' w' hrr hs' => ?_)
    refine wAny_of_wpM (hs := hsOf ks) T (fun _ hw => hw.to fun _ _ => trivial) _ _ _ _ hs' ?_
    exact wpM_one (g' := fun u => (d2, u) :: (d, v) :: g) T (hcl.set hir) hri hj hnsj hrr (hw2' v) (fun u a hf => hf.put hN2) (hf.put hN) fun u l2 a' hR hf' hcl' => (k v u l2 hR).out T hQ (fun _ hw => hw.to fun _ _ => trivial) _ hc2 hcl' a' hf'
  · refine ⟨fun hb => (by rw [hnsj] at hb; cases hb), fun _ w hC => ?_⟩
    unfold wpOpIn
    simp only [hj']
    rw [if_pos (gw_true (o := ⟨some d2, o2, ty2, pos2, af2, gd2⟩) hf hw2)]
    refine wpIn_of_upon h2.nd (h2.out _ _ _ _ _ a w hf hC _ _ fun u l' w' hrr hs' => ?_)
    refine wAny_of_wpM (hs := hsOf ks) T (fun _ hw => hw.to fun _ _ => trivial) _ _ _ _ hs' ?_
    exact wpM_one (g' := fun v => (d, v) :: (d2, u) :: g) T (hcl.set hjr) hrj hi hnsi hrr (hw' u) (fun u a hf => hf.put hN) (hf.put hN2) fun v l2 a' hR hf' hcl' =>
      (k v u l2 hR).out T hQ (fun _ hw => hw.to fun _ _ => trivial) _ (by rw [Array.setIfInBounds_comm _ _ (Ne.symm hne)]; exact hc2) hcl' a' (swap hf')
end rules
open Go.RowKit
section ops
variable {C : Ctx} {g : Regs} {l : List HP}
theorem OL_box {T : Nat} {x : Operand} {v : Value} {cs : List Value} (hx : ev g x = some v) (hc : cellsL v = some cs) : OpL C g l (.box T x) (fun v l' => ∃ b, v = ptr b 0 ∧ l' = blk b cs T :: l) :=
  ⟨(by intro c h; cases h), fun dst ty pos af gd a w hf hs K Q k => by
    have e : v.cells = cs.toArray := by rw [← litL_eq hc]
    simp only [execOp, hf.ev hx, Instr.box, newVar, newRow, newObj, Sem.run_bind, Sem.run, Result.andThen, Pure.pure, e, Oper.uponIn]
    exact k _ _ _ ⟨w.heap.size, rfl, rfl⟩ (hs.alloc _)⟩
theorem OL_alloc {T : Nat} {i : TyI} {cs : List Value} (ht : look C.ti T = some i) (hc : litL i.zero = some cs) : OpL C g l (.alloc T) (fun v l' => ∃ b, v = ptr b 0 ∧ l' = blk b cs T :: l) :=
  ⟨(by intro c h; cases h), fun dst ty pos af gd a w hf hs K Q k => by
    obtain ⟨z, hz, ez⟩ := run_zero w (C.ok.look ht)
    have e : z.cells = cs.toArray := by rw [← litL_eq hc, ← ez]
    simp only [execOp, Instr.alloc, Sem.run_bind, hz, newVar, newRow, newObj, Sem.run, Result.andThen, Pure.pure, e, Oper.uponIn]
    exact k _ _ _ ⟨w.heap.size, rfl, rfl⟩ (hs.alloc _)⟩
theorem OQ_load {T b o T' : Nat} {x : Operand} {cs : List Value} {v : Value} (hx : ev g x = some (ptr b o)) (ha : aggAt C.ti T = some false) (m : blk b cs T' ∈ l) (hc : cs[o]? = some v) : OpQ C g l (.load T x) v :=
  ⟨(by intro c h; cases h), fun dst ty pos af gd a hf w hs => by
    have hb := hs.blk (List.mem_append_left _ m)
    have hl : (load ⟨b, o, none⟩).run C.P w = .ok v w := run_load (by rw [cell_of hb]; exact hc)
    simp only [execOp, hf.ev hx, ptr, Instr.loadAt, Instr.sureAddr, loadVar, Sem.run_bind, Sem.run, Result.andThen, Pure.pure, aggAt_run ha w, Bool.false_eq_true, if_false, hl, Oper.quietUpon, and_self]⟩
theorem OQ_loadA {T b o T' n : Nat} {x : Operand} {cs vs : List Value} (hx : ev g x = some (ptr b o)) (ha : aggAt C.ti T = some true) (hn : sizeAt C.ti T = some n) (m : blk b cs T' ∈ l) (hc : takeL cs o n = some vs) : OpQ C g l (.load T x) (.agg vs.toArray) :=
  ⟨(by intro c h; cases h), fun dst ty pos af gd a hf w hs => by
    have hb := hs.blk (List.mem_append_left _ m)
    have hl : (loadCells ⟨b, o, none⟩ n).run C.P w = .ok vs.toArray w := by
      have := run_loadCells (P := C.P) hb o n 0 vs #[] hc
      simpa [loadCells] using this
    simp only [execOp, hf.ev hx, ptr, Instr.loadAt, Instr.sureAddr, loadVar, Sem.run_bind, Sem.run, Result.andThen, Pure.pure, aggAt_run ha w, if_true, sizeAt_run hn w, hl, Oper.quietUpon, and_self]⟩
theorem run_loadCells_of {P : Program} {w : World} {b off : Nat} : ∀ (n i : Nat) (vs : List Value) (acc : Array Value), vs.length = n → (∀ j, j < n → w.cell? ⟨b, off + (i + j), none⟩ = vs[j]?) →
    (loadCellsFrom ⟨b, off, none⟩ i n acc).run P w = .ok (acc ++ vs.toArray) w := by
  intro n
  induction n with
  | zero => intro i vs acc hl _; have : vs = [] := List.eq_nil_of_length_eq_zero hl; subst this; simp [loadCellsFrom, Pure.pure, Sem.run]
  | succ n ih =>
    intro i vs acc hl hc
    cases vs with
    | nil => cases hl
    | cons v vs =>
      have h0 : w.cell? ⟨b, off + i, none⟩ = some v := by have := hc 0 (by omega); simpa using this
      simp only [loadCellsFrom, addr_add, Sem.run_bind, run_load h0, Result.andThen]
      rw [ih (i + 1) vs _ (by simpa using hl) (fun j hj => by have := hc (j + 1) (by omega); rw [show off + (i + 1 + j) = off + (i + (j + 1)) by omega]; simpa using this)]
      simp
theorem OL_store {T b o T' i n : Nat} {x y : Operand} {cs cs' vs : List Value} {v : Value} {r : List HP} (hx : ev g x = some (ptr b o)) (hy : ev g y = some v) (hv : cellsL v = some vs) (hn : sizeAt C.ti T = some n) (hl : vs.length = n) (hp : plainL vs = true)
    (m : pick1 l i = some (blk b cs T', r)) (hc : putL cs o vs = some cs') : OpL C g l (.store T x y) (fun _ l' => l' = blk b cs' T' :: r) :=
  ⟨(by intro c h; cases h), fun dst ty pos af gd a w hf hs K Q k => by
    have hs' : Sat C.W (blk b cs T' :: (r ++ C.fr)) w := hs.perm ((pick1_perm m).append_right _)
    have e : v.cells.toList = vs := litL_eq hv
    obtain ⟨w', hr, hs''⟩ := run_storeCells (P := C.P) vs w C.W _ b o 0 T' cs cs' hs' (plainL_mem hp) hc
    have hsz : v.cells.size = n := by rw [← hl, ← e]; simp
    simp only [execOp, hf.ev hx, hf.ev hy, ptr, Instr.storeAt, Instr.sureAddr, storeVar, Sem.run_bind, Sem.run, Result.andThen, Pure.pure, sizeAt_run hn w, hsz, ne_eq, not_true_eq_false, if_false, e, hr, Oper.uponIn]
    exact k _ _ _ rfl hs''⟩
theorem put1_set {cs : List Value} {n : Nat} {v : Value} (h : n < cs.length) : put1 cs n v = some (cs.set n v) := by
  induction cs generalizing n with
  | nil => cases h
  | cons x r ih =>
    cases n with
    | zero => rfl
    | succ n => simp only [put1, ih (Nat.lt_of_succ_lt_succ h), List.set]
theorem OL_call {x : Operand} {args : Array Operand} {ts : Array TypeId} {f : FuncId} {fi ca : Array Value} {vas full : List Value} {pre r : List HP} {post : Value → List HP → Prop} (is : List Nat)
    (hx : ev g x = some (.func (.func f) fi ca)) (ha : evs g args.toList = some vas) (hl : litL (fi.toList ++ (vas ++ ca.toList)) = some full) (hs : Does C.P f full pre post) (hp : picks l is = some (pre, r)) :
    OpL C g l (.call { callee := .value x, args := args, argTypes := ts }) (fun v l' => ∃ l1, post v l1 ∧ l' = l1 ++ r) :=
  ⟨(by intro c h; cases h), fun dst ty pos af gd a w hf hsat K Q k => by
    have e1 : args.map a.eval = vas.toArray := arr_of (hf.evs ha)
    have e2 : fi ++ vas.toArray ++ ca = full.toArray := by
      rw [← litL_eq hl]; apply Array.ext'; simp
    have hs' : Sat C.W (pre ++ (r ++ C.fr)) w := (hsat.perm ((picks_perm hp).append_right _)).perm (by rw [List.append_assoc])
    simp only [execOp, resolve, e1, hf.ev hx, Deferred.ofValue, Sem.run_bind, Sem.run, Result.andThen, Pure.pure, invoke, e2]
    rw [hs.1 full.toArray w]
    refine ⟨fun h => (by cases h), (callsIn_wide (n := 0 - 1)).2 ((hs.2 C.W (r ++ C.fr) w hs').mono ?_)⟩
    rintro e w' ⟨v, l', rfl, hpost, hsat'⟩
    exact k _ _ _ ⟨l', hpost, rfl⟩ (hsat'.perm (by rw [List.append_assoc]))⟩
theorem OQ_call {x : Operand} {args : Array Operand} {ts : Array TypeId} {f : FuncId} {fi ca : Array Value} {vas full : List Value} {pre r : List HP} {v : Value} {post : Value → List HP → Prop} (is : List Nat)
    (hx : ev g x = some (.func (.func f) fi ca)) (ha : evs g args.toList = some vas) (hl : litL (fi.toList ++ (vas ++ ca.toList)) = some full) (hs : Does C.P f full pre post) (hp : picks l is = some (pre, r))
    (hpost : ∀ v' l', post v' l' → v' = v ∧ ∀ H, Stars l' H → Stars pre H) :
    OpQ C g l (.call { callee := .value x, args := args, argTypes := ts }) v :=
  ⟨(by intro c h; cases h), fun dst ty pos af gd a hf w hsat => by
    have e1 : args.map a.eval = vas.toArray := arr_of (hf.evs ha)
    have e2 : fi ++ vas.toArray ++ ca = full.toArray := by
      rw [← litL_eq hl]; apply Array.ext'; simp
    have hperm := ((picks_perm hp).append_right C.fr)
    have hs' : Sat C.W (pre ++ (r ++ C.fr)) w := (hsat.perm hperm).perm (by rw [List.append_assoc])
    simp only [execOp, resolve, e1, hf.ev hx, Deferred.ofValue, Sem.run_bind, Sem.run, Result.andThen, Pure.pure, invoke, e2]
    rw [hs.1 full.toArray w]
    refine ⟨rfl, (hs.2 C.W (r ++ C.fr) w hs').mono ?_⟩
    rintro e w' ⟨v', l', rfl, hp', hsat'⟩
    obtain ⟨rfl, hl'⟩ := hpost v' l' hp'
    exact ⟨rfl, (hsat'.lift hl').perm ((List.append_assoc _ _ _ ▸ hperm.symm))⟩⟩
theorem OV_idx {T e sz b o n cap off : Nat} {k : IntKind} {m : Int} {x y : Operand} {s1 s2 : Nat} {z : List Value} (ht : look C.ti T = some ⟨.slice e, s1, s2, z⟩) (hsz : sizeAt C.ti e = some sz) (hx : ev g x = some (.slice (some ⟨b, o, none⟩) n cap)) (hy : ev g y = some (.int k m))
    (h0 : 0 ≤ m) (h1 : m < n) (he : o + m.toNat * sz = off) : OpV C g (.indexAddr T x y) (ptr b off) := by
  refine ⟨(by intro c h; cases h), fun d ty pos af gd a w hf => ?_⟩
  subst he
  have hu := run_underlying (und_slice (C.ok.look ht) rfl) w
  have hz : (sizeOf e).run C.P w = .ok sz w := sizeAt_run hsz w
  have hcond : 0 ≤ m ∧ m < (n : Int) := ⟨h0, h1⟩
  simp only [execOp, hf.ev hx, hf.ev hy, Instr.indexAt, asIntOf, Sem.run_bind, Sem.run, Result.andThen, Pure.pure, hu, hcond, and_self, if_true, hz, addr_add, ptr]
theorem OV_idxA {T e sz len b o off : Nat} {k : IntKind} {m : Int} {x y : Operand} {s1 s2 : Nat} {z : List Value} (ht : look C.ti T = some ⟨.array len e, s1, s2, z⟩) (hsz : sizeAt C.ti e = some sz) (hx : ev g x = some (ptr b o)) (hy : ev g y = some (.int k m))
    (h0 : 0 ≤ m) (h1 : m < len) (he : o + m.toNat * sz = off) : OpV C g (.indexAddr T x y) (ptr b off) := by
  refine ⟨(by intro c h; cases h), fun d ty pos af gd a w hf => ?_⟩
  subst he
  have hu := run_underlying (und_array (C.ok.look ht) rfl) w
  have hz : (sizeOf e).run C.P w = .ok sz w := sizeAt_run hsz w
  have hcond : 0 ≤ m ∧ m < (len : Int) := ⟨h0, h1⟩
  simp only [execOp, hf.ev hx, hf.ev hy, ptr, Instr.indexAt, asIntOf, Instr.sureAddr, Sem.run_bind, Sem.run, Result.andThen, Pure.pure, hu, hcond, and_self, if_true, hz, addr_add]
theorem OV_add {t t' : TypeId} {x y : Operand} {m n : Int} (hx : ev g x = some (.int .i64 m)) (hy : ev g y = some (.int .i64 n)) (h1 : -9223372036854775808 ≤ m + n) (h2 : m + n ≤ 9223372036854775807) : OpV C g (.binOp .add t x y t') (.int .i64 (m + n)) :=
  pureOp_sound (by simp only [pureOp, hx, hy, binV, wrap_id h1 h2])
theorem OV_sub {t t' : TypeId} {x y : Operand} {m n : Int} (hx : ev g x = some (.int .i64 m)) (hy : ev g y = some (.int .i64 n)) (h1 : -9223372036854775808 ≤ m - n) (h2 : m - n ≤ 9223372036854775807) : OpV C g (.binOp .sub t x y t') (.int .i64 (m - n)) :=
  pureOp_sound (by simp only [pureOp, hx, hy, binV, wrap_id h1 h2])
theorem OV_mul {t t' : TypeId} {x y : Operand} {m n : Int} (hx : ev g x = some (.int .i64 m)) (hy : ev g y = some (.int .i64 n)) (h1 : -9223372036854775808 ≤ m * n) (h2 : m * n ≤ 9223372036854775807) : OpV C g (.binOp .mul t x y t') (.int .i64 (m * n)) :=
  pureOp_sound (by simp only [pureOp, hx, hy, binV, wrap_id h1 h2])
theorem OV_quo {t t' : TypeId} {x y : Operand} {m n : Int} (hx : ev g x = some (.int .i64 m)) (hy : ev g y = some (.int .i64 n)) (h0 : 0 ≤ m) (h1 : 0 < n) (h2 : m ≤ 9223372036854775807) : OpV C g (.binOp .quo t x y t') (.int .i64 (m / n)) := by
  refine ⟨(by intro c h; cases h), fun d ty pos af gd a w hf => ?_⟩
  have hne : n ≠ 0 := by omega
  have hb : (binOp .quo t (.int .i64 m) (.int .i64 n)).run C.P w = .ok (.int .i64 (m / n)) w := by
    have hd : m.tdiv n = m / n := Int.tdiv_eq_ediv_of_nonneg h0
    have h3 : 0 ≤ m / n := Int.ediv_nonneg h0 (by omega)
    have h4 : m / n ≤ m := Int.ediv_le_self _ h0
    simp only [binOp, Op.intDiv, hne, if_false, ne_eq, not_true_eq_false, hd, wrap_id (by omega : -9223372036854775808 ≤ m / n) (by omega)]
    rfl
  simp only [execOp, hf.ev hx, hf.ev hy]
  rw [Sem.run_bind, run_guarded hb]
  rfl
theorem OV_rem {t t' : TypeId} {x y : Operand} {m n : Int} (hx : ev g x = some (.int .i64 m)) (hy : ev g y = some (.int .i64 n)) (h0 : 0 ≤ m) (h1 : 0 < n) : OpV C g (.binOp .rem t x y t') (.int .i64 (m % n)) := by
  refine ⟨(by intro c h; cases h), fun d ty pos af gd a w hf => ?_⟩
  have hne : n ≠ 0 := by omega
  have hb : (binOp .rem t (.int .i64 m) (.int .i64 n)).run C.P w = .ok (.int .i64 (m % n)) w := by
    have hd : m.tmod n = m % n := Int.tmod_eq_emod_of_nonneg h0
    simp only [binOp, Op.intDiv, hne, if_false, ne_eq, not_true_eq_false, hd]
    rfl
  simp only [execOp, hf.ev hx, hf.ev hy]
  rw [Sem.run_bind, run_guarded hb]
  rfl
theorem OV_conv {s t : Nat} {x : Operand} {k' : IntKind} {n : Int} {i : TyI} {s1 s2 : Nat} {z : List Value} (h1 : look C.ti s = some i) (h2 : look C.ti t = some ⟨.int .i64, s1, s2, z⟩) (hx : ev g x = some (.int k' n)) (h3 : -9223372036854775808 ≤ n) (h4 : n ≤ 9223372036854775807) :
    OpV C g (.convert s t x) (.int .i64 n) :=
  pureOp_sound (by simp only [pureOp, h1, h2, hx, wrap_id h3 h4])
end ops
def placesL (ti : TIs) : List (Nat × Nat) → Option (List (Nat × Nat))
  | [] => some []
  | (off, ft) :: r => match sizeAt ti ft, placesL ti r with
    | some sz, some r' => some ((off, sz) :: r')
    | _, _ => none
def fillL (pl : List (Nat × Nat)) : List Value → List (Nat × Value) → Option (List Value)
  | cs, [] => some cs
  | cs, (i, v) :: rest => match nth pl i, cellsL v with
    | some (off, sz), some vs => match Nat.beq vs.length sz && !Nat.beq sz 0, putL cs off vs with
      | true, some cs' => fillL pl cs' rest
      | _, _ => none
    | _, _ => none
def evP (g : Regs) : List (Nat × Operand) → Option (List (Nat × Value))
  | [] => some []
  | (i, x) :: r => match ev g x, evP g r with
    | some v, some vs => some ((i, v) :: vs)
    | _, _ => none
theorem Fits.evP {C : Ctx} {g : Regs} {a : Act} (h : Fits C g a) : ∀ {xs : List (Nat × Operand)} {vs : List (Nat × Value)}, evP g xs = some vs → xs.map (fun (i, x) => (i, a.eval x)) = vs := by
  intro xs
  induction xs with
  | nil => intro vs e; simp [Sep.evP] at e; subst e; rfl
  | cons p xs ih =>
    obtain ⟨i, x⟩ := p
    intro vs e
    simp only [Sep.evP] at e
    split at e
    · rename_i v us h1 h2
      injection e with e
      subst e
      simp [h.ev h1]
      simpa using ih h2
    · cases e
theorem putL_fold : ∀ {vs cs cs' : List Value} {off k : Nat}, putL cs (off + k) vs = some cs' →
    (off + k + vs.length ≤ cs.length ∨ vs = []) ∧ cs'.length = cs.length ∧ (vs.zipIdx k).foldl (fun (acc : Array Value) (x : Value × Nat) => acc.setIfInBounds (off + x.2) x.1) cs.toArray = cs'.toArray := by
  intro vs
  induction vs with
  | nil => intro cs cs' off k h; simp [putL] at h; subst h; simp
  | cons v vs ih =>
    intro cs cs' off k h
    simp only [putL] at h
    split at h
    · rename_i c1 h1
      obtain ⟨hlt, rfl⟩ := put1_eq h1
      have h' : putL (cs.set (off + k) v) (off + (k + 1)) vs = some cs' := h
      obtain ⟨a1, a2, a3⟩ := ih h'
      refine ⟨.inl ?_, by simpa using a2, ?_⟩
      · rcases a1 with a1 | rfl
        · simp at a1 ⊢; omega
        · simp; omega
      · simp only [List.zipIdx_cons, List.foldl_cons]
        rw [← a3]
        simp
    · cases h
theorem fillL_fill {pl : List (Nat × Nat)} : ∀ {parts : List (Nat × Value)} {cs cs' : List Value}, fillL pl cs parts = some cs' → Instr.fill (pl.toArray[·]?) cs.toArray parts = some cs'.toArray := by
  intro parts
  induction parts with
  | nil => intro cs cs' h; simp [fillL] at h; subst h; rfl
  | cons p parts ih =>
    obtain ⟨i, v⟩ := p
    intro cs cs' h
    simp only [fillL] at h
    split at h
    · rename_i off sz vs h1 h2
      split at h
      · rename_i c1 h4 h5
        have e : v.cells.toList = vs := litL_eq h2
        simp only [Bool.and_eq_true, Bool.not_eq_true'] at h4
        have hlen : v.cells.size = sz := by rw [← Nat.eq_of_beq_eq_true h4.1, ← e]; simp
        have hsz : sz ≠ 0 := fun x => by subst x; simp at h4
        obtain ⟨b1, b2, b3⟩ := putL_fold (k := 0) h5
        have hfold : v.cells.zipIdx.foldl (fun cs (x : Value × Nat) => cs.setIfInBounds (off + x.2) x.1) cs.toArray = c1.toArray := by
          rw [← b3, ← e, ← Array.foldl_toList, Array.toList_zipIdx]
        have hpl : pl.toArray[i]? = some (off, sz) := by rw [List.getElem?_toArray, ← nth_eq]; exact h1
        simp only [Instr.fill, hpl]
        have hle : (v.cells.size ≠ sz ∨ off + v.cells.size > cs.toArray.size) = False := by
          apply eq_false
          intro hh
          rcases hh with hh | hh
          · exact hh hlen
          · rcases b1 with b1 | b1
            · rw [← e] at b1; simp at b1 hh; omega
            · have : v.cells.size = 0 := by rw [← Array.length_toList, e, b1]; rfl
              omega
        simp only [Bool.or_eq_true, decide_eq_true_eq]
        rw [if_neg (by simpa using hle), hfold]
        exact ih h
      · cases h
    · cases h
theorem run_placesL {C : Ctx} (w : World) : ∀ {fs : List Field} {pl : List (Nat × Nat)}, placesL C.ti (fs.map fun f => (f.offset, f.type)) = some pl →
    (fs.mapM fun f => (do Pure.pure (f.offset, ← sizeOf f.type) : Sem (Nat × Nat))).run C.P w = .ok pl w := by
  intro fs
  induction fs with
  | nil => intro pl h; simp [placesL] at h; subst h; rfl
  | cons f fs ih =>
    intro pl h
    simp only [List.map_cons, placesL] at h
    split at h
    · rename_i sz pl' h1 h2
      injection h with h
      subst h
      have hf : (do Pure.pure (f.offset, ← sizeOf f.type) : Sem (Nat × Nat)).run C.P w = .ok (f.offset, sz) w := by
        rw [Sem.run_bind, sizeAt_run h1 w]; rfl
      rw [List.mapM_cons, Sem.run_bind, hf]
      simp only [Result.andThen]
      rw [Sem.run_bind, ih h2]
      rfl
    · cases h
theorem OV_build {C : Ctx} {g : Regs} {T s1 s2 : Nat} {parts : Array (Nat × Operand)} {fs pl : List (Nat × Nat)} {ps : List (Nat × Value)} {z cs : List Value} (ht : look C.ti T = some ⟨.struct fs, s1, s2, z⟩) (hpl : placesL C.ti fs = some pl)
    (hp : evP g parts.toList = some ps) (hf : fillL pl z ps = some cs) : OpV C g (.build T parts) (.agg cs.toArray) := by
  refine ⟨(by intro c h; cases h), fun d ty pos af gd a w hfit => ?_⟩
  obtain ⟨gs, hu, hgs⟩ := und_struct (C.ok.look ht) rfl
  obtain ⟨zv, hz, ez⟩ := run_zero w (C.ok.look ht)
  have e : zv.cells = z.toArray := by
    have ez' : zv.cells.toList = z := ez
    rw [← ez']
  have e2 : (parts.map fun (i, x) => (i, a.eval x)) = ps.toArray := by
    have := hfit.evP hp
    rw [← this]; apply Array.ext'; simp
  have hrun : (Instr.build T ps.toArray).run C.P w = .ok (.agg cs.toArray) w := by
    have hpl' := run_placesL (C := C) w (fs := gs.toList) (by rw [hgs]; exact hpl)
    simp only [Instr.build, Sem.run_bind, hz, Result.andThen, run_underlying hu w, Array.mapM_eq_mapM_toList, e]
    rw [Sem.run_map, hpl']
    simp only [Result.andThen, fillL_fill hf]
    rfl
  simp only [execOp, e2]
  rw [Sem.run_bind, hrun]
  rfl
open Go.RowKit
theorem putL_split : ∀ {vs cs : List Value} {off : Nat}, off + vs.length ≤ cs.length → putL cs off vs = some (cs.take off ++ vs ++ cs.drop (off + vs.length)) := by
  intro vs
  induction vs with
  | nil => intro cs off h; simp [putL]
  | cons v vs ih =>
    intro cs off h
    simp only [List.length_cons] at h
    have h1 : off < cs.length := by omega
    simp only [putL, put1_set h1]
    rw [ih (by simp; omega)]
    congr 1
    apply List.ext_getElem?
    intro i
    simp only [List.getElem?_append, List.length_take, List.length_set, List.getElem?_take, List.getElem?_set, List.getElem?_drop, List.length_append, List.length_cons]
    by_cases c1 : i < off
    · simp [c1, h1, show i < off + 1 by omega, show min (off + 1) cs.length = off + 1 by omega, show min off cs.length = off by omega, show off ≠ i by omega, show i < off + 1 + vs.length by omega, show i < off + (vs.length + 1) by omega]
    · by_cases c2 : i = off
      · subst c2
        simp [h1, show min (i + 1) cs.length = i + 1 by omega, show min i cs.length = i by omega, show i < i + 1 + vs.length by omega, show i < i + (vs.length + 1) by omega]
      · by_cases c3 : i < off + 1 + vs.length
        · simp [c1, c3, show ¬ i < off + 1 by omega, show min (off + 1) cs.length = off + 1 by omega, show min off cs.length = off by omega, show i < off + (vs.length + 1) by omega]
          rw [show i - off = (i - (off + 1)) + 1 by omega]
          simp
        · simp [c1, c3, show min (off + 1) cs.length = off + 1 by omega, show min off cs.length = off by omega, show ¬ i < off + (vs.length + 1) by omega]
          rw [if_neg (by omega)]
          congr 1
          omega
theorem takeL_eq : ∀ {n : Nat} {cs : List Value} {o : Nat}, o + n ≤ cs.length → takeL cs o n = some ((cs.drop o).take n) := by
  intro n
  induction n with
  | zero => intro cs o h; simp [takeL]
  | succ n ih =>
    intro cs o h
    have h1 : o < cs.length := by omega
    simp only [takeL, ih (show o + 1 + n ≤ cs.length by omega), List.getElem?_eq_getElem h1]
    rw [List.drop_eq_getElem_cons h1, List.take_succ_cons]
theorem range_rep (n : Nat) (v : Value) : (Array.range (n * 1)).map (fun i => #[v][i % #[v].size]!) = (List.replicate n v).toArray := by
  apply Array.ext
  · simp
  · intro i h1 h2
    simp [Nat.mod_one]
section ops
variable {C : Ctx} {g : Regs} {l : List HP}
theorem OL_make {T e s1 s2 by_ : Nat} {d : TD} {z : List Value} {x y : Operand} {n : Int} {k k' : IntKind} {v : Value} (ht : look C.ti T = some ⟨.slice e, s1, s2, z⟩) (he : look C.ti e = some ⟨d, 1, by_, [v]⟩)
    (hx : ev g x = some (.int k n)) (hy : ev g y = some (.int k' n)) (h0 : 0 ≤ n) (h1 : (by_ : Int) * n ≤ 140737488355328) (h2 : n ≤ 9223372036854775807) :
    OpL C g l (.makeSlice T x y) (fun u l' => ∃ b, u = .slice (some ⟨b, 0, none⟩) n.toNat n.toNat ∧ l' = blk b (List.replicate n.toNat v) e :: l) :=
  ⟨(by intro c h; cases h), fun dst ty pos af gd a w hf hs K Q kk => by
    obtain ⟨f, hf1, hf2⟩ := run_bytes w (C.ok.look he)
    obtain ⟨zv, hz, ez⟩ := run_zero w (C.ok.look he)
    have hsz := run_sizeOf w (C.ok.look he)
    have ez' : zv.cells = #[v] := by
      have e1 : zv.cells.toList = [v] := ez
      rw [← e1]
    have hf2' : f.bytes = by_ := hf2
    have hw : IntKind.i64.wrap n = n := wrap_id (by omega) h2
    have hrun : ∃ w', (Instr.makeSlice T (.int k n) (.int k' n)).run C.P w = .ok (.slice (some ⟨w.heap.size, 0, none⟩) n.toNat n.toNat) w' ∧ w' = w.alloc (.cells (List.replicate n.toNat v).toArray e (0, 0)) := by
      refine ⟨_, ?_, rfl⟩
      have hc1 : ((decide (n < 0) || decide ((by_ : Int) * n > 2 ^ 48)) || decide (n < 0) || decide (n > n)) = false := by
        simp; omega
      have hroom : (askRoom (n.toNat * by_)).run C.P w = .ok () w := by
        unfold askRoom
        split <;> rfl
      have hsz' : (sizeOf e).run C.P w = .ok 1 w := hsz
      simp only [Instr.makeSlice, Sem.run_bind, run_underlying (und_slice (C.ok.look ht) rfl) w, Result.andThen, asInt, asIntOf, Pure.pure, Sem.run, hf1, hf2', hw, hc1, Bool.false_eq_true, if_false, hroom, hsz']
      by_cases h : n.toNat * 1 = 0
      · have h' : n.toNat = 0 := by omega
        have he : (Array.map (fun _ => (default : Value)) (Array.range 0)) = #[] := by apply Array.ext <;> simp
        simp [h, h', newRow, newObj, Sem.run, he]
      · have hcells := range_rep n.toNat v
        simp only [h, if_false, Sem.run_bind, hz, Result.andThen, ez', newRow, newObj, Sem.run, Pure.pure]
        rw [hcells]
        rfl
    obtain ⟨w', hr, rfl⟩ := hrun
    simp only [execOp, hf.ev hx, hf.ev hy, Sem.run_bind, hr, Result.andThen, Pure.pure, Sem.run, Oper.uponIn]
    exact kk _ _ _ ⟨w.heap.size, rfl, rfl⟩ (hs.alloc _)⟩
def evO (g : Regs) : Option Operand → Option (Option Value)
  | none => some none
  | some x => match ev g x with
    | some v => some (some v)
    | none => none
def boundLo : Option Value → Option Int
  | none => some 0
  | some (.int _ n) => some n
  | _ => none
def boundHi (len : Nat) : Option Value → Option Int
  | none => some len
  | some (.int _ n) => some n
  | _ => none
theorem Fits.evO {a : Act} {x : Option Operand} {v : Option Value} (h : Fits C g a) (e : evO g x = some v) : x.map a.eval = v := by
  cases x with
  | none => simp [Sep.evO] at e; subst e; rfl
  | some x =>
    simp only [Sep.evO] at e
    split at e
    · rename_i u hu; injection e with e; subst e; simp [h.ev hu]
    · cases e
theorem run_sliceBound {P : Program} {k : IntKind} {n : Int} {y : Nat} {code : BoundsCode} (w : World) (h0 : 0 ≤ n) (h1 : n ≤ y) : (Instr.sliceBound (.int k n) y code).run P w = .ok n.toNat w := by
  have hc : 0 ≤ n ∧ n ≤ (y : Int) := ⟨h0, h1⟩
  simp only [Instr.sliceBound, asIntOf, Sem.run_bind, Pure.pure, Sem.run, Result.andThen, hc, and_self, if_true]
theorem OV_slice {T e sz s1 s2 len cap : Nat} {z : List Value} {x : Operand} {lo hi : Option Operand} {vlo vhi : Option Value} {p : Option Addr} {m n : Int} (ht : look C.ti T = some ⟨.slice e, s1, s2, z⟩) (hsz : sizeAt C.ti e = some sz)
    (hx : ev g x = some (.slice p len cap)) (hlo : evO g lo = some vlo) (hhi : evO g hi = some vhi) (hm : boundLo vlo = some m) (hn : boundHi len vhi = some n)
    (h0 : 0 ≤ m) (h1 : m ≤ n) (h2 : n ≤ cap) {p' : Option Addr} (hp : (if cap = m.toNat then p else p.map (·.add (m.toNat * sz))) = p') :
    OpV C g (.slice T x lo hi none) (.slice p' (n.toNat - m.toNat) (cap - m.toNat)) := by
  refine ⟨(by intro c h; cases h), fun d ty pos af gd a w hf => ?_⟩
  subst hp
  have hz : (sizeOf e).run C.P w = .ok sz w := sizeAt_run hsz w
  have hu := run_underlying (und_slice (C.ok.look ht) rfl) w
  have hb : (Instr.sliceBounds true len cap vlo vhi none).run C.P w = .ok (m.toNat, n.toNat, cap) w := by
    unfold Instr.sliceBounds
    cases vhi with
    | none =>
      simp only [boundHi, Option.some.injEq] at hn
      subst hn
      cases vlo with
      | none =>
        simp only [boundLo, Option.some.injEq] at hm
        subst hm
        simp [Sem.run_bind, Pure.pure, Sem.run, Result.andThen]
      | some u =>
        cases u <;> simp [boundLo] at hm
        subst hm
        have hl := run_sliceBound (P := C.P) (k := by assumption) (code := .sliceB) w h0 (y := len) h1
        simp [Sem.run_bind, Pure.pure, Sem.run, Result.andThen, hl]
    | some u =>
      cases u <;> simp [boundHi] at hn
      subst hn
      have hh := fun k => run_sliceBound (P := C.P) (k := k) (code := .sliceAcap) w (show 0 ≤ by assumption by omega) (y := cap) h2
      cases vlo with
      | none =>
        simp only [boundLo, Option.some.injEq] at hm
        subst hm
        simp [Sem.run_bind, Pure.pure, Sem.run, Result.andThen, hh]
      | some u =>
        cases u <;> simp [boundLo] at hm
        subst hm
        have hl := fun k (y : Nat) (hy : _ ≤ (y : Int)) => run_sliceBound (P := C.P) (k := k) (code := .sliceB) w h0 (y := y) hy
        simp [Sem.run_bind, Pure.pure, Sem.run, Result.andThen, hh]
        rw [hl _ _ (by omega)]
  have hlo' := hf.evO hlo
  have hhi' := hf.evO hhi
  have hr : (Instr.sliceAt T (.slice p len cap) vlo vhi none).run C.P w = .ok (.slice (if cap = m.toNat then p else p.map (·.add (m.toNat * sz))) (n.toNat - m.toNat) (cap - m.toNat)) w := by
    simp only [Instr.sliceAt, Sem.run_bind, hu, Result.andThen, Instr.slice, hb, hz]
    rfl
  simp only [execOp, hf.ev hx, hlo', hhi', Option.map_none]
  rw [Sem.run_bind, hr]
  rfl
end ops
def row (T sz : Nat) (a : Option Addr) (n cap : Nat) (cs : List Value) : HP := fun h =>
  (a = none ∧ n = 0 ∧ cap = 0 ∧ cs = []) ∨
  ∃ (b : Nat) (pre spare : List Value), a = some ⟨b, pre.length, none⟩ ∧ cs.length = n * sz ∧ n ≤ cap ∧ spare.length = (cap - n) * sz ∧ blk b (pre ++ cs ++ spare) T h
theorem row_nil {T sz : Nat} {l : List HP} {H : PH} (h : Stars l H) : Stars (row T sz none 0 0 [] :: l) H :=
  ⟨fun _ => none, H, fun _ => .inl rfl, (fun _ _ e => by cases e), Sub.refl _, .inl ⟨rfl, rfl, rfl, rfl⟩, h⟩
theorem row_blk {T sz b n cap : Nat} {cs spare : List Value} {l : List HP} {H : PH} (h : Stars (blk b (cs ++ spare) T :: l) H) (h1 : cs.length = n * sz) (h2 : n ≤ cap) (h3 : spare.length = (cap - n) * sz) :
    Stars (row T sz (some ⟨b, 0, none⟩) n cap cs :: l) H :=
  h.weak fun hh hb => .inr ⟨b, [], spare, rfl, h1, h2, h3, by simpa using hb⟩
theorem row_full {T sz b n : Nat} {cs : List Value} {l : List HP} {H : PH} (h : Stars (blk b cs T :: l) H) (h1 : cs.length = n * sz) : Stars (row T sz (some ⟨b, 0, none⟩) n n cs :: l) H :=
  row_blk (spare := []) (by simpa using h) h1 (Nat.le_refl _) (by simp)
def Src (C : Ctx) (l : List HP) (sz m : Nat) (v : Value) (cs : List Value) : Prop :=
  cs.length = m * sz ∧ (Builtin.lenOf v = Pure.pure m) ∧ ∀ w, Sat C.W (l ++ C.fr) w → (Builtin.firstCells sz m v).run C.P w = .ok cs.toArray w
theorem Src.nil {C : Ctx} {l : List HP} {sz : Nat} : Src C l sz 0 (.slice none 0 0) [] := ⟨by simp, rfl, fun w _ => rfl⟩
theorem Src.blk {C : Ctx} {l : List HP} {sz m cap b o T : Nat} {cs vs : List Value} (hm : blk b cs T ∈ l) (h : takeL cs o (m * sz) = some vs) (hl : vs.length = m * sz) : Src C l sz m (.slice (some ⟨b, o, none⟩) m cap) vs :=
  ⟨hl, rfl, fun w hs => by
    have hb := hs.blk (List.mem_append_left _ hm)
    have := run_loadCells (P := C.P) hb o (m * sz) 0 vs #[] h
    simpa [Builtin.firstCells, loadCells] using this⟩
theorem Src.row {C : Ctx} {l : List HP} {sz m cap T : Nat} {a : Option Addr} {cs : List Value} (hm : row T sz a m cap cs ∈ l) : Src C l sz m (.slice a m cap) cs ∨ ¬ (cs.length = m * sz) := by
  by_cases hc : cs.length = m * sz
  · left
    refine ⟨hc, rfl, fun w hs => ?_⟩
    obtain ⟨h1, s1, hp⟩ := hs.stars.mem (List.mem_append_left C.fr hm)
    rcases hp with ⟨rfl, rfl, rfl, rfl⟩ | ⟨b, pre, spare, rfl, e1, e2, e3, hb⟩
    · rfl
    · have hb' : w.heap[b]? = some (.cells (pre ++ cs ++ spare).toArray T (0, 0)) := s1 _ _ hb
      have := run_loadCells (P := C.P) hb' pre.length (m * sz) 0 cs #[] (by
        rw [takeL_eq (by simp; omega), List.append_assoc, Nat.add_zero, List.drop_left, List.take_left' hc])
      simpa [Builtin.firstCells, loadCells] using this
  · exact .inr hc
theorem Src.low {C : Ctx} {l : List HP} {sz m cap b o : Nat} {W' : World} {cs : List Value} (hm : Low W' ∈ l) (hb : m ≠ 0 → b < W'.heap.size) (hl : cs.length = m * sz) (hc : ∀ j, j < m * sz → W'.cell? ⟨b, o + j, none⟩ = cs[j]?) :
    Src C l sz m (.slice (some ⟨b, o, none⟩) m cap) cs :=
  ⟨hl, rfl, fun w hs => by
    have := run_loadCells_of (P := C.P) (w := w) (b := b) (off := o) (m * sz) 0 cs #[] hl (fun j hj => by
      have hm0 : m ≠ 0 := fun e => by subst e; simp at hj
      rw [show o + (0 + j) = o + j by omega, ← hc j hj]
      exact World.cell?_of_block (w := W') (hs.low (List.mem_append_left _ hm) (hb hm0)))
    simpa [Builtin.firstCells, loadCells] using this⟩
theorem nextcap_le (need cap : Nat) (h : cap < need) : Builtin.nextslicecap need cap ≤ 2 * need + 1024 := by
  unfold Builtin.nextslicecap
  split
  · omega
  · split
    · omega
    · have grow : ∀ (r c : Nat), c ≤ 2 * need + 1024 → Builtin.growBy need r c ≤ 2 * need + 1024 := by
        intro r
        induction r with
        | zero => intro c hc; exact hc
        | succ r ih =>
          intro c hc
          simp only [Builtin.growBy]
          split
          · exact hc
          · refine ih _ ?_
            omega
      exact grow 4 cap (by omega)
theorem zeroCells_len (z : Array Value) (n : Nat) : (Builtin.zeroCells z n).toList.length = n * z.size := by
  simp [Builtin.zeroCells]
theorem plainL_rep {v : Value} (h : plainL [v] = true) (n : Nat) : plainL (List.replicate n v) = true := by
  have step : ∀ r, plainL r = true → plainL (v :: r) = true := by
    intro r hr
    cases v <;> simp [plainL] at h ⊢ <;> exact hr
  induction n with
  | zero => rfl
  | succ n ih => rw [List.replicate_succ]; exact step _ ih
section append
variable {C : Ctx} {g : Regs} {l : List HP}
theorem pick1_mem {α : Type} {l : List α} {i : Nat} {x : α} {r : List α} (h : pick1 l i = some (x, r)) : x ∈ l := (pick1_perm h).symm.subset (List.mem_cons_self ..)
theorem run_choose_cap {P : Program} {need cap e : Nat} (w : World) (h : need < 9223372036854775808) :
    ∃ c, need ≤ c ∧ (choose (.appendCap need cap e)).run P w = .ok c { w with drawn := w.drawn + 1 } := by
  refine ⟨(Question.appendCap need cap e).cut (w.tape w.drawn (.appendCap need cap e)), ?_, ?_⟩
  · simp [Question.cut]
  · simp [choose, Sem.run, Question.forced]
theorem run_append {P : Program} {e T T2 sz by_ n m cap : Nat} {d2 : TypeDesc} {f : TypeInfo} {a : Option Addr} {v2 zv : Value} {ty : TypeId} {w : World} {old news : List Value} (hu : P.underlying T = some (.slice e)) (hu2 : P.underlying T2 = some d2) (hni : ∀ k, d2 ≠ .int k)
    (hsz : ∀ w, (sizeOf e).run P w = .ok sz w) (hf : ∀ w, (typeInfo e).run P w = .ok f w) (hby : f.bytes = by_) (hz : ∀ w, (zeroValue e).run P w = .ok zv w) (hlo : Builtin.lenOf v2 = Pure.pure m)
    (hold : ∀ k, (Builtin.firstCells sz n (.slice a n cap)).run P { w with drawn := k } = .ok old.toArray { w with drawn := k }) (hnew : ∀ k, (Builtin.firstCells sz m v2).run P { w with drawn := k } = .ok news.toArray { w with drawn := k })
    (hb : (2 * (n + m) + 1024) * by_ ≤ 140737488355328) (hnm : n + m < 9223372036854775807) (hby0 : by_ ≠ 0) :
    (n + m ≤ cap → ∀ w', (match a with | some p => (storeCells (p.add (n * sz)) news : Sem Unit) | none => Pure.pure ()).run P w = .ok () w' →
      (Builtin.append_ #[T, T2] ty #[.slice a n cap, v2]).run P w = .ok (.slice a (n + m) cap) w') ∧
    (¬ n + m ≤ cap → ∃ c, n + m ≤ c ∧ (Builtin.append_ #[T, T2] ty #[.slice a n cap, v2]).run P w =
      .ok (.slice (some ⟨w.heap.size, 0, none⟩) (n + m) c) (({ w with drawn := w.drawn + 1 } : World).alloc (.cells (old ++ news ++ (Builtin.zeroCells zv.cells (c - (n + m))).toList).toArray e))) := by
  have hnew0 := hnew w.drawn
  have hu' := fun w => run_underlying (P := P) hu w
  have hu2' := fun w => run_underlying (P := P) hu2 w
  have e0 : ({ w with drawn := w.drawn } : World) = w := rfl
  rw [e0] at hnew0
  constructor
  · intro hfit w' hw'
    cases d2 <;> first | exact absurd rfl (hni _) | skip
    all_goals
      simp only [Builtin.append_, List.getElem?_toArray, List.getElem?_cons_zero, List.getElem?_cons_succ, Sem.run_bind, hu', hsz, hu2', Result.andThen, Pure.pure, Sem.run, hlo, hfit, hnew0, Bool.false_eq_true, Bool.not_false, if_true, if_false]
      cases a with
      | none => simp only [Pure.pure, Sem.run] at hw'; injection hw' with h1 h2; subst h2; rfl
      | some p => simp only [Sem.run_bind, hw', Result.andThen, Sem.run]
  · intro hfit
    obtain ⟨c, hc, hch⟩ := run_choose_cap (P := P) (need := n + m) (cap := cap) (e := e) w (by omega)
    refine ⟨c, hc, ?_⟩
    have hold1 := hold (w.drawn + 1)
    have hnew1 := hnew (w.drawn + 1)
    have hns := nextcap_le (n + m) cap (by omega)
    have h1 : ¬ (((n + m : Nat) : Int) > IntKind.i64.max) := by
      have : IntKind.i64.max = 9223372036854775807 := by decide
      rw [this]; omega
    have h2 : ¬ (Builtin.nextslicecap (n + m) cap * f.bytes > 2 ^ 48) := by
      rw [hby]
      have := Nat.mul_le_mul_right by_ hns
      omega
    have hroom : ∀ b w, (askRoom b).run P w = .ok () w := by
      intro b w
      unfold askRoom
      split <;> rfl
    cases d2 <;> first | exact absurd rfl (hni _) | skip
    all_goals
      simp only [Builtin.append_, List.getElem?_toArray, List.getElem?_cons_zero, List.getElem?_cons_succ, Sem.run_bind, hu', hsz, hu2', Result.andThen, Pure.pure, Sem.run, hlo, hfit, Bool.false_eq_true, Bool.not_false, if_true, if_false, hf, h1, h2, false_and, hch, hroom, hold1, hnew1, hz, newRow, newObj]
      have hcs : old.toArray ++ news.toArray ++ Builtin.zeroCells zv.cells (c - (n + m)) = (old ++ news ++ (Builtin.zeroCells zv.cells (c - (n + m))).toList).toArray := by apply Array.ext'; simp
      rw [hcs]
      rfl
theorem OL_append {T e s1 s2 sz by_ : Nat} {d : TD} {z ze : List Value} {x y : Operand} {a : Option Addr} {n m cap i T2 : Nat} {cs news : List Value} {v2 : Value} {r : List HP} {i2 : TyI} (ht : look C.ti T = some ⟨.slice e, s1, s2, z⟩) (he : look C.ti e = some ⟨d, sz, by_, ze⟩) (hz : ze.length = sz)
    (hx : ev g x = some (.slice a n cap)) (hy : ev g y = some v2) (hi : pick1 l i = some (row e sz a n cap cs, r)) (hsrc : Src C l sz m v2 news) (hplain : plainL news = true)
    (hT2 : look C.ti T2 = some i2) (hni : ∀ k, i2.d ≠ .int k) (hb : (2 * (n + m) + 1024) * by_ ≤ 140737488355328) (hnm : n + m < 9223372036854775807) (hby : by_ ≠ 0) :
    OpL C g l (.call { callee := .builtin .append, args := #[x, y], argTypes := #[T, T2] }) (fun u l' => ∃ a' cap', u = .slice a' (n + m) cap' ∧ l' = row e sz a' (n + m) cap' (cs ++ news) :: r) :=
  ⟨(by intro c h; cases h), fun dst ty pos af gd ac w hf hs K Q kk => by
    obtain ⟨_, d2, _, _, hu2, _, ed2, _⟩ := tyView_parts (C.ok.look hT2)
    have hni' : ∀ k, d2 ≠ .int k := fun k h => hni k (by rw [← ed2, h]; rfl)
    have hu := und_slice (C.ok.look ht) rfl
    have hsz' : ∀ w, (sizeOf e).run C.P w = .ok sz w := fun w => run_sizeOf w (C.ok.look he)
    obtain ⟨ft, _, zv, hft, _, hzv, _, _, hfb, hzc⟩ := tyView_parts (C.ok.look he)
    have hf1 : ∀ w, (typeInfo e).run C.P w = .ok ft w := fun w => run_typeInfo w hft
    have hz1 : ∀ w, (zeroValue e).run C.P w = .ok zv w := fun w => by simp [zeroValue, Sem.run_bind, run_typeInfo w hft, Result.andThen, hzv, Pure.pure]
    have hzs : zv.cells.size = sz := by rw [← hz, ← Array.length_toList]; exact congrArg List.length hzc
    obtain ⟨hlen, hlo, hread⟩ := hsrc
    have hs' : Sat C.W (row e sz a n cap cs :: (r ++ C.fr)) w := hs.perm ((pick1_perm hi).append_right _)
    have hrow : cs.length = n * sz ∧ n ≤ cap := by
      obtain ⟨h1, _, _, _, _, hp, _⟩ := hs'.stars
      rcases hp with ⟨_, rfl, rfl, rfl⟩ | ⟨b, pre, spare, _, e1, e2, e3, _⟩
      · simp
      · exact ⟨e1, e2⟩
    have hold : ∀ k, (Builtin.firstCells sz n (.slice a n cap)).run C.P { w with drawn := k } = .ok cs.toArray { w with drawn := k } := by
      intro k
      rcases Src.row (C := C) (l := l) (pick1_mem hi) with h | h
      · exact h.2.2 _ (hs.drawn k)
      · exact absurd hrow.1 h
    have hnew : ∀ k, (Builtin.firstCells sz m v2).run C.P { w with drawn := k } = .ok news.toArray { w with drawn := k } := fun k => hread _ (hs.drawn k)
    obtain ⟨A1, A2⟩ := run_append (ty := ty) hu hu2 hni' hsz' hf1 hfb hz1 hlo hold hnew hb hnm hby
    have hrun : ∃ a' cap' w', (Builtin.append_ #[T, T2] ty #[.slice a n cap, v2]).run C.P w = .ok (.slice a' (n + m) cap') w' ∧ Sat C.W (row e sz a' (n + m) cap' (cs ++ news) :: (r ++ C.fr)) w' := by
      by_cases hfit : n + m ≤ cap
      · obtain ⟨h1, h2, ap, s1, s2, hp, hl⟩ := hs'.stars
        rcases hp with ⟨rfl, rfl, rfl, rfl⟩ | ⟨b, pre, spare, rfl, e1, e2, e3, hbk⟩
        · have hm0 : m = 0 := by omega
          subst hm0
          have hn0 : news = [] := List.eq_nil_of_length_eq_zero (by simpa using hlen)
          subst hn0
          exact ⟨none, 0, w, A1 hfit w rfl, hs'⟩
        · have hsb : Sat C.W (blk b (pre ++ cs ++ spare) e :: (r ++ C.fr)) w := ⟨hs'.os, hs'.tape, hs'.output, h1, h2, ap, s1, s2, hbk, hl⟩
          have hle : m * sz ≤ spare.length := by rw [e3]; exact Nat.mul_le_mul_right _ (by omega)
          have hput : putL (pre ++ cs ++ spare) (pre.length + n * sz + 0) news = some (pre ++ (cs ++ news) ++ spare.drop (m * sz)) := by
            rw [putL_split (by simp; omega)]
            have e4 : pre.length + n * sz = (pre ++ cs).length := by simp [e1]
            rw [Nat.add_zero, e4, List.take_left, hlen, List.drop_append]
            have e5 : List.drop ((pre ++ cs).length + m * sz) (pre ++ cs) = [] := List.drop_eq_nil_of_le (by omega)
            rw [e5, Nat.add_sub_cancel_left]
            simp
          obtain ⟨w', hr, hs2⟩ := run_storeCells (P := C.P) news w C.W _ b (pre.length + n * sz) 0 e _ _ hsb (plainL_mem hplain) hput
          refine ⟨some ⟨b, pre.length, none⟩, cap, w', A1 hfit w' (by simp only [addr_add]; exact hr), hs2.os, hs2.tape, hs2.output, hs2.stars.weak fun hh hbb => .inr ⟨b, pre, spare.drop (m * sz), rfl, ?_, hfit, ?_, hbb⟩⟩
          · simp [e1, hlen, Nat.add_mul]
          · simp [e3]; rw [← Nat.sub_mul]; congr 1; omega
      · obtain ⟨c, hc, hr⟩ := A2 hfit
        refine ⟨_, c, _, hr, ?_⟩
        have hs2 := (hs'.drawn (w.drawn + 1)).alloc (.cells (cs ++ news ++ (Builtin.zeroCells zv.cells (c - (n + m))).toList).toArray e (0, 0))
        refine ⟨hs2.os, hs2.tape, hs2.output, ?_⟩
        have hs3 : Stars (blk w.heap.size ((cs ++ news) ++ (Builtin.zeroCells zv.cells (c - (n + m))).toList) e :: (r ++ C.fr)) _ := (hs2.stars.swap).tail
        exact row_blk hs3 (by simp [hrow.1, hlen, Nat.add_mul]) hc (by rw [zeroCells_len, hzs])
    obtain ⟨a', cap', w', hr, hs''⟩ := hrun
    have := run_builtin_of (P := C.P) (ρ := ac.eval) (b := .append) (xs := #[x, y]) (ts := #[T, T2]) (w := w) (d := dst) (ty := ty) (pos := pos) (af := af) (gd := gd) (n := .value (.slice a' (n + m) cap')) (w' := w') (by
      simp only [builtin, List.map_toArray, List.map_cons, List.map_nil, hf.ev hx, hf.ev hy]
      rw [Sem.run_bind, hr]; rfl)
    rw [this]
    exact kk _ _ _ ⟨a', cap', rfl, rfl⟩ hs''⟩
theorem OL_copy {T T2 e s1 s2 sz b o n cap m i Tb : Nat} {z : List Value} {x y : Operand} {cs cs' news : List Value} {v2 : Value} {r : List HP} (ht : look C.ti T = some ⟨.slice e, s1, s2, z⟩) (hsz : sizeAt C.ti e = some sz)
    (hx : ev g x = some (.slice (some ⟨b, o, none⟩) n cap)) (hy : ev g y = some v2) (hi : pick1 l i = some (blk b cs Tb, r)) (hlo : Builtin.lenOf v2 = Pure.pure m) (hread : ∀ w, Sat C.W (l ++ C.fr) w → (Builtin.firstCells sz (min m n) v2).run C.P w = .ok news.toArray w) (hplain : plainL news = true)
    (hput : putL cs o news = some cs') : OpL C g l (.call { callee := .builtin .copy, args := #[x, y], argTypes := #[T, T2] }) (fun u l' => u = .int .i64 (min m n) ∧ l' = blk b cs' Tb :: r) :=
  ⟨(by intro c h; cases h), fun dst ty pos af gd ac w hf hs K Q kk => by
    have hu := run_underlying (und_slice (C.ok.look ht) rfl) w
    have hs' : Sat C.W (blk b cs Tb :: (r ++ C.fr)) w := hs.perm ((pick1_perm hi).append_right _)
    obtain ⟨w', hr, hs2⟩ := run_storeCells (P := C.P) news w C.W _ b o 0 Tb _ _ hs' (plainL_mem hplain) hput
    have hrd := hread w hs
    have hrun : (Builtin.copy_ #[T, T2] ty #[.slice (some ⟨b, o, none⟩) n cap, v2]).run C.P w = .ok (.int .i64 (min m n)) w' := by
      have hmin : Nat.min m n = min m n := rfl
      simp only [Builtin.copy_, List.getElem?_toArray, List.getElem?_cons_zero, List.getElem?_cons_succ, Sem.run_bind, hu, Result.andThen, Pure.pure, Sem.run, hlo, sizeAt_run hsz w, hmin, hrd, hr]
      simp [goInt]
      omega
    have := run_builtin_of (P := C.P) (ρ := ac.eval) (b := .copy) (xs := #[x, y]) (ts := #[T, T2]) (w := w) (d := dst) (ty := ty) (pos := pos) (af := af) (gd := gd) (n := .value (.int .i64 (min m n))) (w' := w') (by
      simp only [builtin, List.map_toArray, List.map_cons, List.map_nil, hf.ev hx, hf.ev hy]
      rw [Sem.run_bind, hrun]; rfl)
    rw [this]
    exact kk _ _ _ ⟨rfl, rfl⟩ hs2⟩
theorem OL_clear {T e s1 s2 by_ b o n cap i Tb : Nat} {d : TD} {z : List Value} {v : Value} {x : Operand} {cs cs' : List Value} {r : List HP} (ht : look C.ti T = some ⟨.slice e, s1, s2, z⟩) (he : look C.ti e = some ⟨d, 1, by_, [v]⟩)
    (hx : ev g x = some (.slice (some ⟨b, o, none⟩) n cap)) (hi : pick1 l i = some (blk b cs Tb, r)) (hplain : plainL [v] = true)
    (hput : putL cs o (List.replicate n v) = some cs') : OpL C g l (.call { callee := .builtin .clear, args := #[x], argTypes := #[T] }) (fun u l' => u = .tuple #[] ∧ l' = blk b cs' Tb :: r) :=
  ⟨(by intro c h; cases h), fun dst ty pos af gd ac w hf hs K Q kk => by
    have hu := run_underlying (und_slice (C.ok.look ht) rfl) w
    have hs' : Sat C.W (blk b cs Tb :: (r ++ C.fr)) w := hs.perm ((pick1_perm hi).append_right _)
    obtain ⟨zv, hz, ez⟩ := run_zero w (C.ok.look he)
    have ez' : zv.cells = #[v] := by
      have e1 : zv.cells.toList = [v] := ez
      rw [← e1]
    have hpl : plainL (List.replicate n v) = true := plainL_rep hplain n
    obtain ⟨w', hr, hs2⟩ := run_storeCells (P := C.P) (List.replicate n v) w C.W _ b o 0 Tb _ _ hs' (plainL_mem hpl) hput
    have hzc : (Builtin.zeroCells #[v] n).toList = List.replicate n v := by
      rw [show Builtin.zeroCells #[v] n = (Array.range (n * 1)).map (fun i => #[v][i % #[v].size]!) from rfl, range_rep]
    have hrun : (Builtin.clear_ #[T] ty #[.slice (some ⟨b, o, none⟩) n cap]).run C.P w = .ok (.tuple #[]) w' := by
      cases n with
      | zero =>
        simp only [List.replicate_zero, storeCells, Pure.pure, Sem.run] at hr
        injection hr with _ e; subst e
        simp only [Builtin.clear_, List.getElem?_toArray, List.getElem?_cons_zero, Sem.run_bind, hu, Result.andThen, Pure.pure, Sem.run]
      | succ n =>
        simp only [Builtin.clear_, List.getElem?_toArray, List.getElem?_cons_zero, Sem.run_bind, hu, Result.andThen, Pure.pure, Sem.run, hz, ez', hzc, hr]
    have := run_builtin_of (P := C.P) (ρ := ac.eval) (b := .clear) (xs := #[x]) (ts := #[T]) (w := w) (d := dst) (ty := ty) (pos := pos) (af := af) (gd := gd) (n := .value (.tuple #[])) (w' := w') (by
      simp only [builtin, List.map_toArray, List.map_cons, List.map_nil, hf.ev hx]
      rw [Sem.run_bind, hrun]; rfl)
    rw [this]
    exact kk _ _ _ ⟨rfl, rfl⟩ hs2⟩
end append
open Go.RowKit
inductive RV (C : Ctx) (g : Regs) (l : List HP) : List ResultVar → List Value → Prop
  | nil : RV C g l [] []
  | tmp {t : Tmp} {v : Value} {rs : List ResultVar} {vs : List Value} (h : look g t = some v) (k : RV C g l rs vs) : RV C g l (.tmp t :: rs) (v :: vs)
  | cell {t T b o T' : Nat} {cs : List Value} {v : Value} {rs : List ResultVar} {vs : List Value} (h : look g t = some (ptr b o)) (ha : aggAt C.ti T = some false) (m : blk b cs T' ∈ l) (hc : cs[o]? = some v) (k : RV C g l rs vs) : RV C g l (.cell t T :: rs) (v :: vs)
  | agg {t T b o T' n : Nat} {cs us : List Value} {rs : List ResultVar} {vs : List Value} (h : look g t = some (ptr b o)) (ha : aggAt C.ti T = some true) (hn : sizeAt C.ti T = some n) (m : blk b cs T' ∈ l) (hc : takeL cs o n = some us) (k : RV C g l rs vs) : RV C g l (.cell t T :: rs) (.agg us.toArray :: vs)
def resF (tm : Array Value) : ResultVar → Sem Value
  | .tmp t => Pure.pure (tm.getD t undef)
  | .cell a t => do loadVar t (← asAddr (tm.getD a undef))
theorem run_resF_cell {C : Ctx} {tm : Array Value} {x t b o : Nat} {v : Value} {w : World} (h : tm.getD x undef = ptr b o) (hl : (loadVar t ⟨b, o, none⟩).run C.P w = .ok v w) : (resF tm (.cell x t)).run C.P w = .ok v w := by
  simp only [resF, h, ptr, asAddr, Sem.run_bind, Pure.pure, Sem.run, Result.andThen, hl]
theorem RV.run {C : Ctx} {g : Regs} {l : List HP} {rs : List ResultVar} {vs : List Value} (h : RV C g l rs vs) {a : Act} {w : World} (hf : Fits C g a) (hs : Sat C.W (l ++ C.fr) w) :
    (rs.mapM (resF a.tmps)).run C.P w = .ok vs w := by
  have step : ∀ (r : ResultVar) (rs : List ResultVar) (v : Value) (vs : List Value), (resF a.tmps r).run C.P w = .ok v w → (rs.mapM (resF a.tmps)).run C.P w = .ok vs w → ((r :: rs).mapM (resF a.tmps)).run C.P w = .ok (v :: vs) w := by
    intro r rs v vs h1 h2
    rw [List.mapM_cons, Sem.run_bind, h1]
    simp only [Result.andThen]
    rw [Sem.run_bind, h2]
    rfl
  induction h with
  | nil => rfl
  | tmp h k ih => exact step _ _ _ _ (by rw [← hf.2.2 _ _ h]; rfl) ih
  | cell h ha m hc k ih =>
    have hb := hs.blk (List.mem_append_left _ m)
    refine step _ _ _ _ (run_resF_cell (hf.2.2 _ _ h) ?_) ih
    simp only [loadVar, Sem.run_bind, aggAt_run ha w, Result.andThen, Bool.false_eq_true, if_false]
    exact run_load ((cell_of hb _).trans hc)
  | agg h ha hn m hc k ih =>
    have hb := hs.blk (List.mem_append_left _ m)
    refine step _ _ _ _ (run_resF_cell (hf.2.2 _ _ h) ?_) ih
    have hl := run_loadCells (P := C.P) hb _ _ 0 _ #[] hc
    simp only [loadVar, loadCells, Sem.run_bind, aggAt_run ha w, Result.andThen, if_true, sizeAt_run hn w, hl]
    simp [Pure.pure, Sem.run]
def retV : List Value → Value
  | [v] => v
  | vs => .tuple vs.toArray
theorem run_results {C : Ctx} {g : Regs} {l : List HP} {fn : Func} {rs : List ResultVar} {vs : List Value} (hr : fn.results.toList = rs) (h : RV C g l rs vs) {a : Act} {w : World} (hf : Fits C g a) (hs : Sat C.W (l ++ C.fr) w) :
    (results fn a.tmps).run C.P w = .ok (retV vs) w := by
  subst hr
  have h1 := h.run hf hs
  have e : results fn a.tmps = (do let vs ← fn.results.mapM (resF a.tmps); Pure.pure (if h : vs.size = 1 then vs[0] else .tuple vs) : Sem Value) := by
    unfold results
    congr 1
  rw [e, Sem.run_bind, Array.mapM_eq_mapM_toList, Sem.run_map, h1]
  simp only [Result.andThen]
  cases vs with
  | nil => rfl
  | cons v vs =>
    cases vs with
    | nil => rfl
    | cons u us => rfl
section returns
variable {C : Ctx} {fn : Func} {post : Value → List HP → Prop} {g : Regs} {l : List HP}
theorem At_ret (hD : C.D = []) {rs : List ResultVar} {vs : List Value} (hr : fn.results.toList = rs) (hv : RV C g l rs vs) {v : Value} (hret : retV vs = v) {is : List Nat} {l' r : List HP} (hp : picks l is = some (l', r)) (h : post v l') : At C (FP C fn post .ret) g l :=
  ⟨fun a w hf hs => ⟨hf.1.trans hD, _, run_results hr hv hf hs, _, l', rfl, by rw [hret]; exact h, hs.lift fun _ k => (k.perm (picks_perm hp)).left⟩⟩
theorem At_end (hD : C.D = []) {rs : List ResultVar} {vs : List Value} (hr : fn.results.toList = rs) (hv : RV C g l rs vs) {v : Value} (hret : retV vs = v) {is : List Nat} {l' r : List HP} (hp : picks l is = some (l', r)) (h : post v l') : At C (FP C fn post .normal) g l :=
  ⟨fun a w hf hs => ⟨hf.1.trans hD, _, run_results hr hv hf hs, _, l', rfl, by rw [hret]; exact h, hs.lift fun _ k => (k.perm (picks_perm hp)).left⟩⟩
theorem At_ret' (hD : C.D = []) {rs : List ResultVar} {vs : List Value} (hr : fn.results.toList = rs) (hv : RV C g l rs vs) {v : Value} (hret : retV vs = v) {l' : List HP} (hp : ∀ H, Stars l H → Stars l' H) (h : post v l') : At C (FP C fn post .ret) g l :=
  ⟨fun a w hf hs => ⟨hf.1.trans hD, _, run_results hr hv hf hs, _, l', rfl, by rw [hret]; exact h, hs.lift hp⟩⟩
theorem At_end' (hD : C.D = []) {rs : List ResultVar} {vs : List Value} (hr : fn.results.toList = rs) (hv : RV C g l rs vs) {v : Value} (hret : retV vs = v) {l' : List HP} (hp : ∀ H, Stars l H → Stars l' H) (h : post v l') : At C (FP C fn post .normal) g l :=
  ⟨fun a w hf hs => ⟨hf.1.trans hD, _, run_results hr hv hf hs, _, l', rfl, by rw [hret]; exact h, hs.lift hp⟩⟩
end returns
section eq
variable {C : Ctx} {g : Regs}
theorem run_eql_of {P : Program} {t : Nat} {x y : Operand} {u v : Value} {b : Bool} {w : World} (hg : (eqGuard .eql t x y u v).run P w = .ok () w) (hb : (binOp .eql t u v).run P w = .ok (.bool b) w) :
    (do eqGuard .eql t x y u v; binOp .eql t u v : Sem Value).run P w = .ok (.bool b) w := by
  rw [Sem.run_bind, hg]; exact hb
def nilEq : Value → Value → Option Bool
  | .pointer a, .pointer none => some a.isNone
  | .pointer none, .pointer (some _) => some false
  | .slice a _ _, .slice none _ _ => some a.isNone
  | .nilFunc, .nilFunc => some true
  | .func _ _ _, .nilFunc => some false
  | .map a, .map none => some a.isNone
  | _, _ => none
def fitNil : TD → Value → Bool
  | .ptr _, .pointer _ => true
  | .slice _, .slice _ _ _ => true
  | .func, .nilFunc => true
  | .func, .func _ _ _ => true
  | .map _ _, .map _ => true
  | _, _ => false
theorem run_nilEq {t : Nat} {i : TyI} {u v : Value} {b : Bool} (ht : look C.ti t = some i) (hu : fitNil i.d u = true) (h : nilEq u v = some b) (w : World) : (Op.equal t u v).run C.P w = .ok b w := by
  obtain ⟨f, d, z, hf, hu', hz, e1, _⟩ := tyView_parts (C.ok.look ht)
  unfold nilEq at h
  unfold Op.equal
  show (Op.equalIn (9999 + 1) t u v).run C.P w = _
  rw [Op.equalIn, Sem.run_bind, run_underlying hu' w]
  simp only [Result.andThen]
  rw [← e1] at hu
  split at h
  case h_1 a => cases a <;> (cases d <;> first | (simp [tdOf, fitNil] at hu; done) | (injection h with h; subst h; rfl))
  case h_2 => cases d <;> first | (simp [tdOf, fitNil] at hu; done) | (injection h with h; subst h; rfl)
  case h_3 a _ _ _ _ => cases a <;> (cases d <;> first | (simp [tdOf, fitNil] at hu; done) | (injection h with h; subst h; rfl))
  case h_4 => cases d <;> first | (simp [tdOf, fitNil] at hu; done) | (injection h with h; subst h; rfl)
  case h_5 => cases d <;> first | (simp [tdOf, fitNil] at hu; done) | (injection h with h; subst h; rfl)
  case h_6 a => cases a <;> (cases d <;> first | (simp [tdOf, fitNil] at hu; done) | (injection h with h; subst h; rfl))
  case h_7 => cases h
theorem OV_eqnil {t t' : TypeId} {i : TyI} {x y : Operand} {u v : Value} {b : Bool} (ht : look C.ti t = some i) (hx : ev g x = some u) (hy : ev g y = some v) (hu : fitNil i.d u = true) (h : nilEq u v = some b) : OpV C g (.binOp .eql t x y t') (.bool b) := by
  refine ⟨(by intro c h; cases h), fun d ty pos af gd a w hf => ?_⟩
  have he := run_nilEq ht hu h w
  have hg : (eqGuard .eql t x y u v).run C.P w = .ok () w := by
    unfold nilEq at h
    split at h <;> first | rfl | cases h
  have hb : (binOp .eql t u v).run C.P w = .ok (.bool b) w := by
    have : binOp .eql t u v = (do Pure.pure (.bool (← Op.equal t u v)) : Sem Value) := by
      unfold nilEq at h
      split at h <;> first | rfl | cases h
    rw [this, Sem.run_bind, he]; rfl
  simp only [execOp, hf.ev hx, hf.ev hy]
  rw [Sem.run_bind, run_eql_of hg hb]
  rfl
theorem OV_neqnil {t t' : TypeId} {i : TyI} {x y : Operand} {u v : Value} {b : Bool} (ht : look C.ti t = some i) (hx : ev g x = some u) (hy : ev g y = some v) (hu : fitNil i.d u = true) (h : nilEq u v = some b) : OpV C g (.binOp .neq t x y t') (.bool (!b)) := by
  refine ⟨(by intro c h; cases h), fun d ty pos af gd a w hf => ?_⟩
  have he := run_nilEq ht hu h w
  have hb : (do eqGuard .neq t x y u v; binOp .neq t u v : Sem Value).run C.P w = .ok (.bool (!b)) w := by
    have : (do eqGuard .neq t x y u v; binOp .neq t u v : Sem Value) = (do Pure.pure (.bool (!(← Op.equal t u v))) : Sem Value) := by
      unfold nilEq at h
      split at h <;> first | rfl | cases h
    rw [this, Sem.run_bind, he]; rfl
  simp only [execOp, hf.ev hx, hf.ev hy]
  rw [Sem.run_bind, hb]
  rfl
end eq
open Go.RowKit
section eqagg
variable {C : Ctx} {g : Regs}
theorem OV_eqbool {t t' s1 s2 : Nat} {z : List Value} {x y : Operand} {a b : Bool} (ht : look C.ti t = some ⟨.bool, s1, s2, z⟩) (hx : ev g x = some (.bool a)) (hy : ev g y = some (.bool b)) : OpV C g (.binOp .eql t x y t') (.bool (a == b)) := by
  refine ⟨(by intro c h; cases h), fun d ty pos af gd ac w hf => ?_⟩
  have hu : C.P.underlying t = some .bool := und_bool (C.ok.look ht) rfl
  have hb : (binOp .eql t (.bool a) (.bool b)).run C.P w = .ok (.bool (a == b)) w := by
    have : (Op.equal t (.bool a) (.bool b)).run C.P w = .ok (a == b) w := by
      unfold Op.equal; exact run_equalIn_bool' w 9999 t a b hu
    have e : binOp .eql t (.bool a) (.bool b) = (do Pure.pure (.bool (← Op.equal t (.bool a) (.bool b))) : Sem Value) := by
      first | rfl | simp [binOp]
    rw [e, Sem.run_bind, this]; rfl
  have hg : (eqGuard .eql t x y (.bool a) (.bool b)).run C.P w = .ok () w := by rfl
  simp only [execOp, hf.ev hx, hf.ev hy, Sem.run_bind, hg, Result.andThen, hb, Pure.pure, Sem.run]
theorem OV_neqbool {t t' s1 s2 : Nat} {z : List Value} {x y : Operand} {a b : Bool} (ht : look C.ti t = some ⟨.bool, s1, s2, z⟩) (hx : ev g x = some (.bool a)) (hy : ev g y = some (.bool b)) : OpV C g (.binOp .neq t x y t') (.bool (!(a == b))) := by
  refine ⟨(by intro c h; cases h), fun d ty pos af gd ac w hf => ?_⟩
  have hu : C.P.underlying t = some .bool := und_bool (C.ok.look ht) rfl
  have hb : (binOp .neq t (.bool a) (.bool b)).run C.P w = .ok (.bool (!(a == b))) w := by
    have : (Op.equal t (.bool a) (.bool b)).run C.P w = .ok (a == b) w := by
      unfold Op.equal; exact run_equalIn_bool' w 9999 t a b hu
    have e : binOp .neq t (.bool a) (.bool b) = (do Pure.pure (.bool (!(← Op.equal t (.bool a) (.bool b)))) : Sem Value) := by
      first | rfl | simp [binOp]
    rw [e, Sem.run_bind, this]; rfl
  have hg : (eqGuard .neq t x y (.bool a) (.bool b)).run C.P w = .ok () w := by rfl
  simp only [execOp, hf.ev hx, hf.ev hy, Sem.run_bind, hg, Result.andThen, hb, Pure.pure, Sem.run]
end eqagg
section eqfields
variable {P : Program} {d : Nat} {xs ys : Array Value} {f : Field} {fs : List Field} {a b : Value} {r s : Bool} {w : World}
end eqfields
theorem Does.to {P : Program} {f : FuncId} {args : List Value} {pre : List HP} {v v' : Value} {l : List HP} (h : Does P f args pre (fun u m => u = v ∧ m = l)) (e : v = v') : Does P f args pre (fun u m => u = v' ∧ m = l) := e ▸ h
section kinds
variable {C : Ctx} {opl rest os : List Oper} {Q : Post} {R : Act → World → Prop} {c : Code} {g : Regs} {l : List HP} {o : Op} {ty : TypeId} {pos : String} {af : Array Edge} {gd : Option (Nat × Bool)} {d : Tmp} {dst : Option Tmp} {ks : List Nat} {order : List Nat}
theorem IsO (h : JO C opl Q os g l) : JO C opl Q os g l := h
theorem IsJ (h : J C c Q g l) : J C c Q g l := h
theorem IsAt (h : At C R g l) : At C R g l := h
theorem IsX {kp : List HP} (h : JX C opl Q kp ks order g l) : JX C opl Q kp ks order g l := h
theorem IsG {x : Nat × Bool} (h : JO C opl Q (⟨dst, o, ty, pos, af, some x⟩ :: rest) g l) : JO C opl Q (⟨dst, o, ty, pos, af, some x⟩ :: rest) g l := h
theorem IsMove {x : Operand} (h : JO C opl Q (⟨dst, .move x, ty, pos, af, gd⟩ :: rest) g l) : JO C opl Q (⟨dst, .move x, ty, pos, af, gd⟩ :: rest) g l := h
theorem IsBin {b : BinOp} {t t' : TypeId} {x y : Operand} (h : JO C opl Q (⟨dst, .binOp b t x y t', ty, pos, af, gd⟩ :: rest) g l) : JO C opl Q (⟨dst, .binOp b t x y t', ty, pos, af, gd⟩ :: rest) g l := h
theorem IsConv {t t' : TypeId} {x : Operand} (h : JO C opl Q (⟨dst, .convert t t' x, ty, pos, af, gd⟩ :: rest) g l) : JO C opl Q (⟨dst, .convert t t' x, ty, pos, af, gd⟩ :: rest) g l := h
theorem IsLoad {t : TypeId} {x : Operand} (h : JO C opl Q (⟨dst, .load t x, ty, pos, af, gd⟩ :: rest) g l) : JO C opl Q (⟨dst, .load t x, ty, pos, af, gd⟩ :: rest) g l := h
theorem IsStore {t : TypeId} {x y : Operand} (h : JO C opl Q (⟨dst, .store t x y, ty, pos, af, gd⟩ :: rest) g l) : JO C opl Q (⟨dst, .store t x y, ty, pos, af, gd⟩ :: rest) g l := h
theorem IsBox {t : TypeId} {x : Operand} (h : JO C opl Q (⟨dst, .box t x, ty, pos, af, gd⟩ :: rest) g l) : JO C opl Q (⟨dst, .box t x, ty, pos, af, gd⟩ :: rest) g l := h
theorem IsAlloc {t : TypeId} (h : JO C opl Q (⟨dst, .alloc t, ty, pos, af, gd⟩ :: rest) g l) : JO C opl Q (⟨dst, .alloc t, ty, pos, af, gd⟩ :: rest) g l := h
theorem IsBuild {t : TypeId} {p : Array (Nat × Operand)} (h : JO C opl Q (⟨dst, .build t p, ty, pos, af, gd⟩ :: rest) g l) : JO C opl Q (⟨dst, .build t p, ty, pos, af, gd⟩ :: rest) g l := h
theorem IsCond {x : Operand} {c1 c2 : Code} (h : J C (.cond x c1 c2) Q g l) : J C (.cond x c1 c2) Q g l := h
end kinds
theorem P0 {α : Type} {x0 : α} {r : List α} : pick1 (x0 :: r) 0 = some (x0, r) := rfl
theorem P1 {α : Type} {x0 x1 : α} {r : List α} : pick1 (x0 :: x1 :: r) 1 = some (x1, x0 :: r) := rfl
theorem P2 {α : Type} {x0 x1 x2 : α} {r : List α} : pick1 (x0 :: x1 :: x2 :: r) 2 = some (x2, x0 :: x1 :: r) := rfl
theorem P3 {α : Type} {x0 x1 x2 x3 : α} {r : List α} : pick1 (x0 :: x1 :: x2 :: x3 :: r) 3 = some (x3, x0 :: x1 :: x2 :: r) := rfl
theorem P4 {α : Type} {x0 x1 x2 x3 x4 : α} {r : List α} : pick1 (x0 :: x1 :: x2 :: x3 :: x4 :: r) 4 = some (x4, x0 :: x1 :: x2 :: x3 :: r) := rfl
theorem P5 {α : Type} {x0 x1 x2 x3 x4 x5 : α} {r : List α} : pick1 (x0 :: x1 :: x2 :: x3 :: x4 :: x5 :: r) 5 = some (x5, x0 :: x1 :: x2 :: x3 :: x4 :: r) := rfl
theorem P6 {α : Type} {x0 x1 x2 x3 x4 x5 x6 : α} {r : List α} : pick1 (x0 :: x1 :: x2 :: x3 :: x4 :: x5 :: x6 :: r) 6 = some (x6, x0 :: x1 :: x2 :: x3 :: x4 :: x5 :: r) := rfl
theorem P7 {α : Type} {x0 x1 x2 x3 x4 x5 x6 x7 : α} {r : List α} : pick1 (x0 :: x1 :: x2 :: x3 :: x4 :: x5 :: x6 :: x7 :: r) 7 = some (x7, x0 :: x1 :: x2 :: x3 :: x4 :: x5 :: x6 :: r) := rfl
open Go.RowKit
theorem fill_mono {f f' : Nat → Option (Nat × Nat)} (h : ∀ i v, f i = some v → f' i = some v) : ∀ {parts : List (Nat × Value)} {cells r : Array Value}, Instr.fill f cells parts = some r → Instr.fill f' cells parts = some r := by
  intro parts
  induction parts with
  | nil => intro cells r e; exact e
  | cons p parts ih =>
    obtain ⟨i, v⟩ := p
    intro cells r e
    simp only [Instr.fill] at e ⊢
    split at e
    · cases e
    · rename_i off size hp
      rw [h _ _ hp]
      simp only
      split at e
      · cases e
      · rename_i hc
        rw [if_neg hc]
        exact ih e
section ops
variable {C : Ctx} {g : Regs} {l : List HP}
theorem OL_buildSlice {T e s1 s2 by_ sz len : Nat} {d : TD} {z ze zs cs : List Value} {pl : List (Nat × Nat)} {parts : Array (Nat × Operand)} {ps : List (Nat × Value)} (ht : look C.ti T = some ⟨.slice e, s1, s2, z⟩) (he : look C.ti e = some ⟨d, sz, by_, ze⟩)
    (hsmall : Nat.ble (len * sz) 16777216 = true) (hlen : ze.length = sz) (hpl : (List.range len).map (fun i => (i * sz, sz)) = pl) (hzs : (List.range (len * sz)).map (fun i => ze.toArray[i % ze.toArray.size]!) = zs) (hp : evP g parts.toList = some ps) (hf : fillL pl zs ps = some cs) :
    OpL C g l (.buildSlice T len parts) (fun u l' => ∃ b, u = .slice (some ⟨b, 0, none⟩) len len ∧ l' = blk b cs e :: l) :=
  ⟨(by intro c h; cases h), fun dst ty pos af gd a w hfit hs K Q kk => by
    obtain ⟨zv, hz, ez⟩ := run_zero w (C.ok.look he)
    have hsz : (sizeOf e).run C.P w = .ok sz w := run_sizeOf w (C.ok.look he)
    have ez' : zv.cells = ze.toArray := by
      have e1 : zv.cells.toList = ze := ez
      rw [← e1]
    have e2 : (parts.map fun (i, x) => (i, a.eval x)) = ps.toArray := by
      have := hfit.evP hp
      rw [← this]; apply Array.ext'; simp
    have hle : len * sz ≤ 16777216 := Nat.le_of_ble_eq_true hsmall
    have hcells : (Array.range (len * sz)).map (fun i => ze.toArray[i % ze.toArray.size]!) = zs.toArray := by
      rw [← hzs]; apply Array.ext'; simp
    have hfill : Instr.fill (fun i => some (i * sz, sz)) zs.toArray ps = some cs.toArray := by
      refine fill_mono ?_ (fillL_fill hf)
      intro i v h
      rw [← hpl] at h
      simp only [List.getElem?_toArray, List.getElem?_map] at h
      cases hr : (List.range len)[i]? with
      | none => rw [hr] at h; cases h
      | some j =>
        rw [hr] at h
        have : j = i := by
          have := List.getElem?_eq_some_iff.1 hr
          obtain ⟨h1, h2⟩ := this
          simpa using h2.symm
        subst this
        exact h
    have hrun : (Instr.buildSlice T len ps.toArray).run C.P w = .ok (.slice (some ⟨w.heap.size, 0, none⟩) len len) (w.alloc (.cells cs.toArray e (0, 0))) := by
      have hn : ¬ (len * sz > 2 ^ 24) := by omega
      by_cases h0 : len * sz = 0
      · have hz0 : zs = [] := by rw [← hzs, h0]; rfl
        have he : ∀ f : Nat → Value, (Array.range 0).map f = #[] := fun f => by apply Array.ext <;> simp
        rw [hz0] at hfill
        simp only [Instr.buildSlice, Sem.run_bind, run_underlying (und_slice (C.ok.look ht) rfl) w, Result.andThen, hsz, h0, if_true, Pure.pure, Sem.run, he, (by decide : ¬ (0 > 2 ^ 24)), if_false, hfill]
        simp [newRow, newObj, Sem.run, Result.andThen, Sem.run_bind]
      · simp only [Instr.buildSlice, Sem.run_bind, run_underlying (und_slice (C.ok.look ht) rfl) w, Result.andThen, hsz, hn, if_false, h0, hz, Pure.pure, Sem.run, ez']
        rw [hcells, hfill]
        simp [newRow, newObj, Sem.run, Result.andThen, Sem.run_bind]
    simp only [execOp, e2]
    rw [Sem.run_bind, hrun]
    simp only [Result.andThen, Pure.pure, Sem.run, Oper.uponIn]
    exact kk _ _ _ ⟨w.heap.size, rfl, rfl⟩ (hs.alloc _)⟩
end ops
section ops
variable {C : Ctx} {g : Regs} {l : List HP}
theorem OL_callP {x : Operand} {args : Array Operand} {ts : Array TypeId} {f : FuncId} {fi ca : Array Value} {vas full : List Value} {pre r : List HP} {post : Value → List HP → Prop}
    (hx : ev g x = some (.func (.func f) fi ca)) (ha : evs g args.toList = some vas) (hl : fi.toList ++ (vas ++ ca.toList) = full) (hs : Does C.P f full pre post) (hp : l.Perm (pre ++ r)) :
    OpL C g l (.call { callee := .value x, args := args, argTypes := ts }) (fun v l' => ∃ l1, post v l1 ∧ l' = l1 ++ r) :=
  ⟨(by intro c h; cases h), fun dst ty pos af gd a w hf hsat K Q k => by
    have e1 : args.map a.eval = vas.toArray := arr_of (hf.evs ha)
    have e2 : fi ++ vas.toArray ++ ca = full.toArray := by
      rw [← hl]; apply Array.ext'; simp
    have hs' : Sat C.W (pre ++ (r ++ C.fr)) w := (hsat.perm (hp.append_right _)).perm (by rw [List.append_assoc])
    simp only [execOp, resolve, e1, hf.ev hx, Deferred.ofValue, Sem.run_bind, Sem.run, Result.andThen, Pure.pure, invoke, e2]
    rw [hs.1 full.toArray w]
    refine ⟨fun h => (by cases h), (callsIn_wide (n := 0 - 1)).2 ((hs.2 C.W (r ++ C.fr) w hs').mono ?_)⟩
    rintro e w' ⟨v, l', rfl, hpost, hsat'⟩
    exact k _ _ _ ⟨l', hpost, rfl⟩ (hsat'.perm (by rw [List.append_assoc]))⟩
end ops
structure Reads (R : HP) (sz m : Nat) (a : Option Addr) (cap : Nat) (cs : List Value) : Prop where
  len : cs.length = m * sz
  empty : a = none → m = 0 ∧ cap = 0
  cell : ∀ (W : World) (l : List HP) (w : World), Sat W l w → R ∈ l → ∀ i, i < m * sz → ∃ b o, a = some ⟨b, o, none⟩ ∧ w.cell? ⟨b, o + i, none⟩ = cs[i]?
theorem Reads.src {R : HP} {sz m : Nat} {a : Option Addr} {cap : Nat} {cs : List Value} (h : Reads R sz m a cap cs) {C : Ctx} {l : List HP} (hm : R ∈ l) : Src C l sz m (.slice a m cap) cs := by
  refine ⟨h.len, rfl, fun w hs => ?_⟩
  cases a with
  | none =>
    obtain ⟨rfl, rfl⟩ := h.empty rfl
    have : cs = [] := List.eq_nil_of_length_eq_zero (by simpa using h.len)
    subst this; rfl
  | some a =>
    by_cases h0 : m * sz = 0
    · have : cs = [] := List.eq_nil_of_length_eq_zero (by rw [h.len, h0])
      subst this
      simp [Builtin.firstCells, h0, loadCells, loadCellsFrom, Pure.pure, Sem.run]
    · have hpos : 0 < m * sz := by omega
      obtain ⟨b, o, e, _⟩ := h.cell _ _ w hs (List.mem_append_left _ hm) 0 hpos
      injection e with e
      subst e
      have := run_loadCells_of (P := C.P) (w := w) (b := b) (off := o) (m * sz) 0 cs #[] h.len (fun j hj => by
        obtain ⟨b', o', e', hc⟩ := h.cell _ _ w hs (List.mem_append_left _ hm) j hj
        injection e' with e'
        injection e' with e1 e2
        subst e1 e2
        rw [Nat.zero_add]; exact hc)
      simpa [Builtin.firstCells, loadCells] using this
theorem Reads.row {T sz m cap : Nat} {a : Option Addr} {cs : List Value} (hl : cs.length = m * sz) (hn : a = none → m = 0 ∧ cap = 0) : Reads (row T sz a m cap cs) sz m a cap cs := by
  refine ⟨hl, hn, fun W l w hs hm i hi => ?_⟩
  obtain ⟨h1, s1, hp⟩ := hs.stars.mem hm
  rcases hp with ⟨rfl, rfl, rfl, rfl⟩ | ⟨b, pre, spare, rfl, e1, e2, e3, hb⟩
  · simp at hi
  · have hb' : w.heap[b]? = some (.cells (pre ++ cs ++ spare).toArray T (0, 0)) := s1 _ _ hb
    refine ⟨b, pre.length, rfl, ?_⟩
    rw [cell_of hb', List.append_assoc, List.getElem?_append_right (by omega), Nat.add_sub_cancel_left, List.getElem?_append_left (by omega)]
theorem Reads.blk {T sz m cap b : Nat} {cs : List Value} (hl : cs.length = m * sz) : Reads (blk b cs T) sz m (some ⟨b, 0, none⟩) cap cs := by
  refine ⟨hl, (fun h => by cases h), fun W l w hs hm i hi => ⟨b, 0, rfl, ?_⟩⟩
  rw [cell_of (hs.blk hm), Nat.zero_add]
theorem Reads.low {sz m cap b o : Nat} {W : World} {cs : List Value} (hb : m ≠ 0 → b < W.heap.size) (hl : cs.length = m * sz) (hc : ∀ j, j < m * sz → W.cell? ⟨b, o + j, none⟩ = cs[j]?) : Reads (Low W) sz m (some ⟨b, o, none⟩) cap cs := by
  refine ⟨hl, (fun h => by cases h), fun W' l w hs hm i hi => ⟨b, o, rfl, ?_⟩⟩
  have hm0 : m ≠ 0 := fun e => by subst e; simp at hi
  rw [← hc i hi]
  exact World.cell?_of_block (w := W) (hs.low hm (hb hm0))
theorem Reads.nil {sz : Nat} {R : HP} : Reads R sz 0 none 0 [] := ⟨by simp, fun _ => ⟨rfl, rfl⟩, fun _ _ _ _ _ i hi => by simp at hi⟩
theorem row_len {T sz m cap : Nat} {a : Option Addr} {cs : List Value} {W : World} {l : List HP} {w : World} (hs : Sat W l w) (hm : row T sz a m cap cs ∈ l) : cs.length = m * sz ∧ (a = none → m = 0 ∧ cap = 0) ∧ m ≤ cap := by
  obtain ⟨h1, s1, hp⟩ := hs.stars.mem hm
  rcases hp with ⟨rfl, rfl, rfl, rfl⟩ | ⟨b, pre, spare, rfl, e1, e2, e3, hb⟩
  · simp
  · exact ⟨e1, (fun h => by cases h), e2⟩
theorem Stars.pickR {l l1 r rc : List HP} {is : List Nat} (h : picks l is = some (l1, r)) (n : Nat) (hd : r.drop n = rc) {H : PH} (hl : Stars l H) : Stars (l1 ++ rc) H := by
  have h1 := hl.perm (picks_perm h)
  have e : l1 ++ r = l1 ++ (r.take n ++ rc) := by rw [← hd, List.take_append_drop]
  rw [e] at h1
  exact ((h1.perm ((List.perm_append_comm (l₁ := r.take n)).append_left l1)).perm (by rw [← List.append_assoc])).left
section facts
variable {C : Ctx} {g : Regs} {l : List HP}
theorem J_fact {c : Code} {Q : Post} (φ : Prop) (hφ : ∀ w, Sat C.W (l ++ C.fr) w → φ) (h : φ → J C c Q g l) : J C c Q g l := ⟨fun a w hf hs => (h (hφ w hs)).out a w hf hs⟩
theorem JO_fact {opl os : List Oper} {Q : Post} (φ : Prop) (hφ : ∀ w, Sat C.W (l ++ C.fr) w → φ) (h : φ → JO C opl Q os g l) : JO C opl Q os g l := ⟨fun a w hf hs => (h (hφ w hs)).out a w hf hs⟩
theorem At_fact {R : Act → World → Prop} (φ : Prop) (hφ : ∀ w, Sat C.W (l ++ C.fr) w → φ) (h : φ → At C R g l) : At C R g l := ⟨fun a w hf hs => (h (hφ w hs)).out a w hf hs⟩
theorem At_row {R : Act → World → Prop} {T sz m cap i : Nat} {a : Option Addr} {cs : List Value} {r : List HP} (hi : pick1 l i = some (row T sz a m cap cs, r)) (h : cs.length = m * sz ∧ (a = none → m = 0 ∧ cap = 0) ∧ m ≤ cap → At C R g l) : At C R g l :=
  At_fact _ (fun w hs => row_len hs (List.mem_append_left _ (pick1_mem hi))) h
theorem J_row {c : Code} {Q : Post} {T sz m cap i : Nat} {a : Option Addr} {cs : List Value} {r : List HP} (hi : pick1 l i = some (row T sz a m cap cs, r)) (h : cs.length = m * sz ∧ (a = none → m = 0 ∧ cap = 0) ∧ m ≤ cap → J C c Q g l) : J C c Q g l :=
  J_fact _ (fun w hs => row_len hs (List.mem_append_left _ (pick1_mem hi))) h
end facts
section ops
variable {C : Ctx} {g : Regs} {l : List HP}
theorem Reads.some {R : HP} {sz m cap : Nat} {a : Option Addr} {cs : List Value} (h : Reads R sz m a cap cs) (hm : 0 < m * sz) {W : World} {l : List HP} {w : World} (hs : Sat W l w) (hR : R ∈ l) : ∃ b o, a = some ⟨b, o, none⟩ := by
  obtain ⟨b, o, e, _⟩ := h.cell W l w hs hR 0 hm
  exact ⟨b, o, e⟩
theorem OQ_read {T b o m sz cap i : Nat} {R : HP} {cs : List Value} {x : Operand} {v : Value} (h : Reads R sz m (some ⟨b, o, none⟩) cap cs) (hR : R ∈ l) (hx : ev g x = some (ptr b (o + i))) (ha : aggAt C.ti T = some false) (hi : i < m * sz) (hc : cs[i]? = some v) : OpQ C g l (.load T x) v :=
  ⟨(by intro c h; cases h), fun dst ty pos af gd a hf w hs => by
    obtain ⟨b', o', e', hc'⟩ := h.cell _ _ w hs (List.mem_append_left _ hR) i hi
    injection e' with e'
    injection e' with e1 e2
    subst e1 e2
    have hl : (load ⟨b, o + i, none⟩).run C.P w = .ok v w := run_load (hc'.trans hc)
    simp only [execOp, hf.ev hx, ptr, Instr.loadAt, Instr.sureAddr, loadVar, Sem.run_bind, Sem.run, Result.andThen, Pure.pure, aggAt_run ha w, Bool.false_eq_true, if_false, hl, Oper.quietUpon, and_self]⟩
theorem OQ_readA {T b o m sz cap i n : Nat} {R : HP} {cs vs : List Value} {x : Operand} (h : Reads R sz m (some ⟨b, o, none⟩) cap cs) (hR : R ∈ l) (hx : ev g x = some (ptr b (o + i))) (ha : aggAt C.ti T = some true) (hn : sizeAt C.ti T = some n) (hi : i + n ≤ m * sz) (hc : takeL cs i n = some vs) : OpQ C g l (.load T x) (.agg vs.toArray) :=
  ⟨(by intro c h; cases h), fun dst ty pos af gd a hf w hs => by
    have hlen : cs.length = m * sz := h.len
    rw [takeL_eq (by omega)] at hc
    injection hc with hc
    have hvl : vs.length = n := by rw [← hc]; simp; omega
    have hl : (loadCells ⟨b, o + i, none⟩ n).run C.P w = .ok vs.toArray w := by
      have := run_loadCells_of (P := C.P) (w := w) (b := b) (off := o + i) n 0 vs #[] hvl (fun j hj => by
        obtain ⟨b', o', e', hc'⟩ := h.cell _ _ w hs (List.mem_append_left _ hR) (i + j) (by omega)
        injection e' with e'
        injection e' with e1 e2
        subst e1 e2
        rw [show o + i + (0 + j) = o + (i + j) by omega, hc', ← hc, List.getElem?_take_of_lt hj, List.getElem?_drop])
      simpa [loadCells] using this
    simp only [execOp, hf.ev hx, ptr, Instr.loadAt, Instr.sureAddr, loadVar, Sem.run_bind, Sem.run, Result.andThen, Pure.pure, aggAt_run ha w, if_true, sizeAt_run hn w, hl, Oper.quietUpon, and_self]⟩
end ops
open Go.ChangeShapes Go.WideShapes Go.ChangeAt Go.RowKit Go.Joins Go.Deep
section
variable {H : Type} {enc : TypeId × Value → H} {P : Program}
theorem trodAll_below (hl : laidOutB P = true) {W W' : World} (hb : Below W.heap.size W W') : ∀ {ts : List TypeId} {vs : List Value} {ds : List (DataW H)} {ps : List MemPlace},
    (ts.all fun t => P.readableRec t && Nat.blt t P.types.size) = true → DataW.TrodAll enc P W 0 (fun _ => true) true ts vs ds ps → (∀ x ∈ ps, x.block < W.heap.size) →
    DataW.TrodAll enc P W' 0 (fun b => decide (b < W.heap.size)) true ts vs ds ps
  | [], vs, ds, ps, _, h, _ => by obtain ⟨rfl, rfl, rfl⟩ := trodAll_nil h; rfl
  | t :: ts, vs, ds, ps, ht, h, hlt => by
    obtain ⟨v, vs, d, ds, p, q, rfl, rfl, rfl, h0, r0⟩ := trodAll_cons h
    simp only [List.all_cons, Bool.and_eq_true] at ht
    exact trodAll_cons_mk (Below.trod hl ht.1.1 (by simpa using ht.1.2) h0 hb fun x hx => hlt x (List.mem_append_left _ hx))
      (trodAll_below hl hb ht.2 r0 fun x hx => hlt x (List.mem_append_right _ hx))
theorem trodAll_len {W : World} {base : Nat} {sp : Nat → Bool} {held : Bool} : ∀ {ts : List TypeId} {vs : List Value} {ds : List (DataW H)} {ps : List MemPlace}, DataW.TrodAll enc P W base sp held ts vs ds ps → ds.length = ts.length
  | [], vs, ds, ps, h => by obtain ⟨rfl, rfl, rfl⟩ := trodAll_nil h; rfl
  | t :: ts, vs, ds, ps, h => by
    obtain ⟨v, vs, d, ds, p, q, rfl, rfl, rfl, h0, r0⟩ := trodAll_cons h
    simp [trodAll_len r0]
end
theorem Does.calls {P : Program} {f : FuncId} {args : List Value} {W : World} {r : Value} (h : Does P f args [Low W] (fun v l => v = r ∧ l = [Low W])) : Calls P f args.toArray W fun e W' => e = .returned r ∧ Below W.heap.size W W' :=
  (h.2 W [] W (Sat.start W)).mono fun e w' ⟨v, l, he, ⟨h1, h2⟩, hs⟩ => by
    subst h1 h2
    exact ⟨he, Sat.below hs (List.mem_append_left _ (List.mem_cons_self ..))⟩
theorem Does.frame {P : Program} {f : FuncId} {args : List Value} {r : Value} (h : Does P f args [] (fun v l => v = r ∧ l = [])) (p : HP) : Does P f args [p] (fun v l => v = r ∧ l = [p]) :=
  ⟨h.1, fun W fr w hs => (h.2 W ([p] ++ fr) w hs).mono fun e w' ⟨v, l, he, ⟨h1, h2⟩, hs'⟩ => by
    subst h1 h2
    exact ⟨_, _, he, ⟨rfl, rfl⟩, hs'⟩⟩
section opens
variable {H : Type} {enc : TypeId × Value → H} {P : Program} {W : World} {base : Nat} {sp : Nat → Bool} {held : Bool}
theorem trod_int {t : TypeId} {k : IntKind} (ht : P.underlying t = some (.int k)) {n : Nat} {v : Value} {x : DataW H × List MemPlace} (h : DataW.trod enc P W base sp held n t [v] = some x) : ∃ m, v = .int k m ∧ (Lit.int k m).wf = true := by
  cases n with
  | zero => cases h
  | succ n =>
    unfold DataW.trod at h
    rw [ht] at h
    split at h <;> first | cases h | skip
    all_goals simp_all
theorem exists_list {α : Type} {Q : Nat → α → Prop} : ∀ (m : Nat), (∀ i, i < m → ∃ y, Q i y) → ∃ L : List α, L.length = m ∧ ∀ i y, L[i]? = some y → Q i y
  | 0, _ => ⟨[], rfl, fun i y h => by simp at h⟩
  | m + 1, h => by
    obtain ⟨L, hl, hL⟩ := exists_list m (fun i hi => h i (by omega))
    obtain ⟨y, hy⟩ := h m (by omega)
    refine ⟨L ++ [y], by simp [hl], fun i z hz => ?_⟩
    rcases Nat.lt_or_ge i m with hi | hi
    · rw [List.getElem?_append_left (by omega)] at hz; exact hL i z hz
    · rw [List.getElem?_append_right (by omega)] at hz
      obtain ⟨h1, h2⟩ := List.getElem?_eq_some_iff.1 hz
      simp at h1 h2
      have : i = m := by omega
      subst this; rw [← h2]; exact hy
theorem flat_get {α : Type} {f : α → List Value} {sz : Nat} : ∀ {ys : List α}, (∀ y ∈ ys, (f y).length = sz) → ∀ {q r : Nat} {y : α}, ys[q]? = some y → r < sz → (ys.flatMap f)[q * sz + r]? = (f y)[r]?
  | [], _, q, r, y, h, _ => by simp at h
  | x :: ys, hf, q, r, y, h, hr => by
    have hx : (f x).length = sz := hf x (List.mem_cons_self ..)
    cases q with
    | zero =>
      simp at h; subst h
      rw [List.flatMap_cons, Nat.zero_mul, Nat.zero_add, List.getElem?_append_left (by omega)]
    | succ q =>
      have h' : ys[q]? = some y := by simpa using h
      rw [List.flatMap_cons, List.getElem?_append_right (by rw [hx, Nat.succ_mul]; omega), hx, show (q + 1) * sz + r - sz = q * sz + r by rw [Nat.succ_mul]; omega]
      exact flat_get (fun y hy => hf y (List.mem_cons_of_mem _ hy)) h' hr
theorem flat_len {α : Type} {f : α → List Value} {sz : Nat} : ∀ {ys : List α}, (∀ y ∈ ys, (f y).length = sz) → (ys.flatMap f).length = ys.length * sz
  | [], _ => by simp
  | x :: ys, hf => by
    rw [List.flatMap_cons, List.length_append, hf x (List.mem_cons_self ..), flat_len (fun y hy => hf y (List.mem_cons_of_mem _ hy)), List.length_cons, Nat.succ_mul]; omega
theorem flat_map {α : Type} (f : α → Value) (l : List α) : l.flatMap (fun y => [f y]) = l.map f := by
  induction l with
  | nil => rfl
  | cons x l ih => simp [ih]
end opens
open Go.RowKit
theorem putL_len : ∀ {vs cs cs' : List Value} {o : Nat}, putL cs o vs = some cs' → cs'.length = cs.length
  | [], cs, cs', o, h => by simp [putL] at h; rw [h]
  | v :: vs, cs, cs', o, h => by
    simp only [putL] at h
    split at h
    · rename_i c1 h1
      obtain ⟨hlt, rfl⟩ := put1_eq h1
      rw [putL_len h]; simp
    · cases h
theorem put1_mid {pre spare : List Value} : ∀ {cs cs' : List Value} {o : Nat} {v : Value}, put1 cs o v = some cs' → put1 (pre ++ cs ++ spare) (pre.length + o) v = some (pre ++ cs' ++ spare) := by
  intro cs cs' o v h
  obtain ⟨hlt, rfl⟩ := put1_eq h
  rw [put1_set (by simp; omega)]
  simp only [List.append_assoc]
  rw [List.set_append, if_neg (by omega), Nat.add_sub_cancel_left, List.set_append, if_pos hlt]
theorem putL_mid {pre spare : List Value} : ∀ {vs cs cs' : List Value} {o : Nat}, putL cs o vs = some cs' → putL (pre ++ cs ++ spare) (pre.length + o) vs = some (pre ++ cs' ++ spare)
  | [], cs, cs', o, h => by simp [putL] at h; subst h; simp [putL]
  | v :: vs, cs, cs', o, h => by
    simp only [putL] at h
    split at h
    · rename_i c1 h1
      simp only [putL, put1_mid h1]
      exact putL_mid h
    · cases h
section ops
variable {C : Ctx} {g : Regs} {l : List HP}
theorem OpL.to {o : Op} {R R' : Value → List HP → Prop} (h : OpL C g l o R) (k : ∀ v l', R v l' → ∃ l2, R' v l2 ∧ ∀ H, Stars l' H → Stars l2 H) : OpL C g l o R' :=
  ⟨h.nd, fun dst ty pos af gd a w hf hs K Q kk => h.out dst ty pos af gd a w hf hs K Q fun v l' w' hr hs' => by
    obtain ⟨l2, hr2, hl⟩ := k v l' hr
    exact kk v l2 w' hr2 (hs'.lift hl)⟩
theorem OV_remk {k : IntKind} {t t' : TypeId} {x y : Operand} {m n : Int} (hx : ev g x = some (.int k m)) (hy : ev g y = some (.int k n)) (h0 : 0 ≤ m) (h1 : 0 < n) : OpV C g (.binOp .rem t x y t') (.int k (m % n)) := by
  refine ⟨(by intro c h; cases h), fun d ty pos af gd a w hf => ?_⟩
  have hne : n ≠ 0 := by omega
  have hb : (binOp .rem t (.int k m) (.int k n)).run C.P w = .ok (.int k (m % n)) w := by
    have hd : m.tmod n = m % n := Int.tmod_eq_emod_of_nonneg h0
    simp only [binOp, Op.intDiv, hne, if_false, ne_eq, not_true_eq_false, hd]
    rfl
  simp only [execOp, hf.ev hx, hf.ev hy]
  have hg : (eqGuard .rem t x y (.int k m) (.int k n)).run C.P w = .ok () w := by rfl
  first
    | (rw [Sem.run_bind, hb]; rfl)
    | (simp only [Sem.run_bind, hg, hb, Result.andThen]; rfl)
theorem OL_storeR {T b o T' sz i k n m cap : Nat} {x y : Operand} {cs cs' vs : List Value} {v : Value} {r : List HP} (hx : ev g x = some (ptr b (o + k))) (hy : ev g y = some v) (hv : cellsL v = some vs) (hn : sizeAt C.ti T = some n) (hl : vs.length = n) (hp : plainL vs = true)
    (hm : pick1 l i = some (row T' sz (some ⟨b, o, none⟩) m cap cs, r)) (hc : putL cs k vs = some cs') : OpL C g l (.store T x y) (fun _ l' => l' = row T' sz (some ⟨b, o, none⟩) m cap cs' :: r) :=
  ⟨(by intro c h; cases h), fun dst ty pos af gd a w hf hs K Q kk => by
    have hs' : Sat C.W (row T' sz (some ⟨b, o, none⟩) _ cap cs :: (r ++ C.fr)) w := hs.perm ((pick1_perm hm).append_right _)
    obtain ⟨h1, h2, ap, s1, s2, hp', hl'⟩ := hs'.stars
    rcases hp' with ⟨e, _⟩ | ⟨b', pre, spare, e, e1, e2, e3, hb⟩
    · cases e
    · injection e with e
      injection e with eb eo
      subst eb eo
      have hs2 : Sat C.W (blk b (pre ++ cs ++ spare) T' :: (r ++ C.fr)) w := ⟨hs'.os, hs'.tape, hs'.output, h1, h2, ap, s1, s2, hb, hl'⟩
      have e : v.cells.toList = vs := litL_eq hv
      obtain ⟨w', hr, hs''⟩ := run_storeCells (P := C.P) vs w C.W _ b (pre.length + k) 0 T' _ _ hs2 (plainL_mem hp) (putL_mid hc)
      have hsz : v.cells.size = n := by rw [← hl, ← e]; simp
      simp only [execOp, hf.ev hx, hf.ev hy, ptr, Instr.storeAt, Instr.sureAddr, storeVar, Sem.run_bind, Sem.run, Result.andThen, Pure.pure, sizeAt_run hn w, hsz, ne_eq, not_true_eq_false, if_false, e, hr, Oper.uponIn]
      refine kk _ _ _ rfl ⟨hs''.os, hs''.tape, hs''.output, hs''.stars.weak fun hh hbb => .inr ⟨b, pre, spare, rfl, by rw [putL_len hc]; exact e1, e2, e3, hbb⟩⟩⟩
end ops
open Go.RowKit
theorem J_cutP {C : Ctx} {Q : Post} {g : Regs} {l : List HP} {x y : Code} {α : Type} (I : α → Prop) (G : α → Regs) (L : α → List HP) (h : J C x (PMeet C I G L Q) g l) (k : ∀ z, I z → J C y Q (G z) (L z)) : J C x (PThen C y Q) g l := by
  refine ⟨fun a w hf hs => wpIn_mono (h.out a w hf hs) ?_⟩
  intro e a' w' hq
  cases e with
  | normal => obtain ⟨z, hIz, hfz, hsz⟩ := hq; exact (k z hIz).out a' w' hfz hsz
  | _ => exact hq
def JXO (C : Ctx) (opl : List Oper) (Q : Post) (kp : List HP) (ks : List Nat) (i : Nat) (op : Oper) (rest : List Nat) (g : Regs) (l : List HP) : Prop := nth opl i = some op → JX C opl Q kp ks (i :: rest) g l
section
variable {C : Ctx} {opl : List Oper} {Q : Post} {kp : List HP} {ks rest : List Nat} {g : Regs} {l : List HP} {i : Nat} {o : Op} {ty : TypeId} {pos : String} {af : Array Edge} {gd : Option (Nat × Bool)} {d : Tmp} {dst : Option Tmp} {op : Oper}
theorem JX_op (hi : nth opl i = some op) (k : JXO C opl Q kp ks i op rest g l) : JX C opl Q kp ks (i :: rest) g l := k hi
theorem XsO (h : JXO C opl Q kp ks i op rest g l) : JXO C opl Q kp ks i op rest g l := h
theorem XsG {x : Nat × Bool} (h : JXO C opl Q kp ks i ⟨dst, o, ty, pos, af, some x⟩ rest g l) : JXO C opl Q kp ks i ⟨dst, o, ty, pos, af, some x⟩ rest g l := h
theorem XsMove {x : Operand} (h : JXO C opl Q kp ks i ⟨dst, .move x, ty, pos, af, gd⟩ rest g l) : JXO C opl Q kp ks i ⟨dst, .move x, ty, pos, af, gd⟩ rest g l := h
theorem XsBin {b : BinOp} {t t' : TypeId} {x y : Operand} (h : JXO C opl Q kp ks i ⟨dst, .binOp b t x y t', ty, pos, af, gd⟩ rest g l) : JXO C opl Q kp ks i ⟨dst, .binOp b t x y t', ty, pos, af, gd⟩ rest g l := h
theorem XsConv {t t' : TypeId} {x : Operand} (h : JXO C opl Q kp ks i ⟨dst, .convert t t' x, ty, pos, af, gd⟩ rest g l) : JXO C opl Q kp ks i ⟨dst, .convert t t' x, ty, pos, af, gd⟩ rest g l := h
theorem XsLoad {t : TypeId} {x : Operand} (h : JXO C opl Q kp ks i ⟨dst, .load t x, ty, pos, af, gd⟩ rest g l) : JXO C opl Q kp ks i ⟨dst, .load t x, ty, pos, af, gd⟩ rest g l := h
theorem XsStore {t : TypeId} {x y : Operand} (h : JXO C opl Q kp ks i ⟨dst, .store t x y, ty, pos, af, gd⟩ rest g l) : JXO C opl Q kp ks i ⟨dst, .store t x y, ty, pos, af, gd⟩ rest g l := h
theorem XsBox {t : TypeId} {x : Operand} (h : JXO C opl Q kp ks i ⟨dst, .box t x, ty, pos, af, gd⟩ rest g l) : JXO C opl Q kp ks i ⟨dst, .box t x, ty, pos, af, gd⟩ rest g l := h
theorem XsAlloc {t : TypeId} (h : JXO C opl Q kp ks i ⟨dst, .alloc t, ty, pos, af, gd⟩ rest g l) : JXO C opl Q kp ks i ⟨dst, .alloc t, ty, pos, af, gd⟩ rest g l := h
theorem XsBuild {t : TypeId} {p : Array (Nat × Operand)} (h : JXO C opl Q kp ks i ⟨dst, .build t p, ty, pos, af, gd⟩ rest g l) : JXO C opl Q kp ks i ⟨dst, .build t p, ty, pos, af, gd⟩ rest g l := h
theorem XO_skip (hk : Nat.blt (kindAt ks i) 2 = true) (hw : gw opl g gd = some false) (hN : Nat.blt d C.N = true) (k : JX C opl Q kp ks rest ((d, undef) :: g) l) : JXO C opl Q kp ks i ⟨some d, o, ty, pos, af, gd⟩ rest g l := fun hi => JX_skip hi hk hw hN k
theorem XO_v {v : Value} (hk : Nat.blt (kindAt ks i) 2 = true) (h : pureOp C.ti g o = some v) (hw : gw opl g gd = some true) (hN : Nat.blt d C.N = true) (k : JX C opl Q kp ks rest ((d, v) :: g) l) : JXO C opl Q kp ks i ⟨some d, o, ty, pos, af, gd⟩ rest g l := fun hi => JX_v hi hk h hw hN k
theorem XO_val {v : Value} (hk : Nat.blt (kindAt ks i) 2 = true) (h : OpV C g o v) (hw : gw opl g gd = some true) (hN : Nat.blt d C.N = true) (k : JX C opl Q kp ks rest ((d, v) :: g) l) : JXO C opl Q kp ks i ⟨some d, o, ty, pos, af, gd⟩ rest g l := fun hi => JX_val hi hk h hw hN k
theorem XO_q {v : Value} (hk : kindAt ks i = 1) (h : OpQ C g l o v) (hw : gw opl g gd = some true) (hN : Nat.blt d C.N = true) (k : JX C opl Q kp ks rest ((d, v) :: g) l) : JXO C opl Q kp ks i ⟨some d, o, ty, pos, af, gd⟩ rest g l := fun hi => JX_q hi hk h hw hN k
theorem XO_l {R : Value → List HP → Prop} (hk : kindAt ks i = 2) (h : OpL C g l o R) (hw : gw opl g gd = some true) (hN : Nat.blt d C.N = true) (k : ∀ v l', R v l' → JX C opl Q [] ks rest ((d, v) :: g) l') : JXO C opl Q [] ks i ⟨some d, o, ty, pos, af, gd⟩ rest g l := fun hi => JX_l hi hk h hw hN k
theorem XO_l0 {R : Value → List HP → Prop} (hk : kindAt ks i = 2) (h : OpL C g l o R) (hw : gw opl g gd = some true) (k : ∀ v l', R v l' → JX C opl Q [] ks rest g l') : JXO C opl Q [] ks i ⟨none, o, ty, pos, af, gd⟩ rest g l := fun hi => JX_l0 hi hk h hw k
theorem XO_kept {v : Value} (hk : kindAt ks i = 5) (h : OpK C g kp o v) (hw : gw opl g gd = some true) (hN : Nat.blt d C.N = true) (k : JX C opl Q kp ks rest ((d, v) :: g) l) : JXO C opl Q kp ks i ⟨some d, o, ty, pos, af, gd⟩ rest g l := fun hi => JX_kept hi hk h hw hN k
theorem XO_mt {x : Operand} {φ : Prop} [Decidable φ] (hk : Nat.blt (kindAt ks i) 2 = true) (h : ev g x = some (.bool (decide φ))) (e : φ) (hw : gw opl g gd = some true) (hN : Nat.blt d C.N = true) (k : JX C opl Q kp ks rest ((d, .bool true) :: g) l) : JXO C opl Q kp ks i ⟨some d, .move x, ty, pos, af, gd⟩ rest g l := fun hi => JX_mt hi hk h e hw hN k
theorem XO_mf {x : Operand} {φ : Prop} [Decidable φ] (hk : Nat.blt (kindAt ks i) 2 = true) (h : ev g x = some (.bool (decide φ))) (e : ¬ φ) (hw : gw opl g gd = some true) (hN : Nat.blt d C.N = true) (k : JX C opl Q kp ks rest ((d, .bool false) :: g) l) : JXO C opl Q kp ks i ⟨some d, .move x, ty, pos, af, gd⟩ rest g l := fun hi => JX_mf hi hk h e hw hN k
theorem XO_nt {x : Operand} {φ : Prop} [Decidable φ] (hk : Nat.blt (kindAt ks i) 2 = true) (h : ev g x = some (.bool (!decide φ))) (e : ¬ φ) (hw : gw opl g gd = some true) (hN : Nat.blt d C.N = true) (k : JX C opl Q kp ks rest ((d, .bool true) :: g) l) : JXO C opl Q kp ks i ⟨some d, .move x, ty, pos, af, gd⟩ rest g l := fun hi => JX_nt hi hk h e hw hN k
theorem XO_nf {x : Operand} {φ : Prop} [Decidable φ] (hk : Nat.blt (kindAt ks i) 2 = true) (h : ev g x = some (.bool (!decide φ))) (e : φ) (hw : gw opl g gd = some true) (hN : Nat.blt d C.N = true) (k : JX C opl Q kp ks rest ((d, .bool false) :: g) l) : JXO C opl Q kp ks i ⟨some d, .move x, ty, pos, af, gd⟩ rest g l := fun hi => JX_nf hi hk h e hw hN k
theorem XO_mb {x : Operand} {φ : Prop} [Decidable φ] (hk : Nat.blt (kindAt ks i) 2 = true) (h : ev g x = some (.bool (decide φ))) (hw : gw opl g gd = some true) (hN : Nat.blt d C.N = true) (k1 : φ → JX C opl Q kp ks rest ((d, .bool true) :: g) l) (k2 : ¬ φ → JX C opl Q kp ks rest ((d, .bool false) :: g) l) : JXO C opl Q kp ks i ⟨some d, .move x, ty, pos, af, gd⟩ rest g l := fun hi => JX_mb hi hk h hw hN k1 k2
theorem XO_nb {x : Operand} {φ : Prop} [Decidable φ] (hk : Nat.blt (kindAt ks i) 2 = true) (h : ev g x = some (.bool (!decide φ))) (hw : gw opl g gd = some true) (hN : Nat.blt d C.N = true) (k1 : ¬ φ → JX C opl Q kp ks rest ((d, .bool true) :: g) l) (k2 : φ → JX C opl Q kp ks rest ((d, .bool false) :: g) l) : JXO C opl Q kp ks i ⟨some d, .move x, ty, pos, af, gd⟩ rest g l := fun hi => JX_nb hi hk h hw hN k1 k2
theorem OK_load {T b o T' : Nat} {x : Operand} {cs : List Value} {v : Value} (hx : ev g x = some (ptr b o)) (ha : aggAt C.ti T = some false) (m : blk b cs T' ∈ kp) (hc : cs[o]? = some v) : OpK C g kp (.load T x) v :=
  ⟨fun dst ty pos af gd a hf w hs => by
    have hb := hs.blk m
    have hl : (load ⟨b, o, none⟩).run C.P w = .ok v w := run_load (by rw [cell_of hb]; exact hc)
    simp only [execOp, hf.ev hx, ptr, Instr.loadAt, Instr.sureAddr, loadVar, Sem.run_bind, Sem.run, Result.andThen, Pure.pure, aggAt_run ha w, Bool.false_eq_true, if_false, hl]⟩
theorem OK_loadA {T b o T' n : Nat} {x : Operand} {cs vs : List Value} (hx : ev g x = some (ptr b o)) (ha : aggAt C.ti T = some true) (hn : sizeAt C.ti T = some n) (m : blk b cs T' ∈ kp) (hc : takeL cs o n = some vs) : OpK C g kp (.load T x) (.agg vs.toArray) :=
  ⟨fun dst ty pos af gd a hf w hs => by
    have hb := hs.blk m
    have hl : (loadCells ⟨b, o, none⟩ n).run C.P w = .ok vs.toArray w := by
      have := run_loadCells (P := C.P) hb o n 0 vs #[] hc
      simpa [loadCells] using this
    simp only [execOp, hf.ev hx, ptr, Instr.loadAt, Instr.sureAddr, loadVar, Sem.run_bind, Sem.run, Result.andThen, Pure.pure, aggAt_run ha w, if_true, sizeAt_run hn w, hl]⟩
theorem OK_read {T b o m sz cap i : Nat} {R : HP} {cs : List Value} {x : Operand} {v : Value} (h : Reads R sz m (some ⟨b, o, none⟩) cap cs) (hR : R ∈ kp) (hx : ev g x = some (ptr b (o + i))) (ha : aggAt C.ti T = some false) (hi : i < m * sz) (hc : cs[i]? = some v) : OpK C g kp (.load T x) v :=
  ⟨fun dst ty pos af gd a hf w hs => by
    obtain ⟨b', o', e', hc'⟩ := h.cell _ _ w hs hR i hi
    injection e' with e'
    injection e' with e1 e2
    subst e1 e2
    have hl : (load ⟨b, o + i, none⟩).run C.P w = .ok v w := run_load (hc'.trans hc)
    simp only [execOp, hf.ev hx, ptr, Instr.loadAt, Instr.sureAddr, loadVar, Sem.run_bind, Sem.run, Result.andThen, Pure.pure, aggAt_run ha w, Bool.false_eq_true, if_false, hl]⟩
end
open Go.RowKit
theorem J_tail {C : Ctx} {tail : Code} {Q Q0 : Post} {y : Code} {g : Regs} {l : List HP} {α : Type} (I : α → Prop) (G : α → Regs) (L : α → List HP) (main : (∀ z, I z → J C tail Q (G z) (L z)) → J C y Q0 g l)
    (t : ∀ z, I z → J C tail Q (G z) (L z)) : J C y Q0 g l := main t
section rounds
variable {C : Ctx} {Q : Post} {g : Regs} {l : List HP} {y : Code} {m : Nat}
def PRnd (C : Ctx) (y : Code) (Q : Post) (m : Nat) : Post := Exit.then (Code.roundsIn (FR C.r) 0 C.P y Q m) Q
theorem At_rnd (h : J C y (PRnd C y Q m) g l) : At C (PRnd C y Q (m + 1) .normal) g l := ⟨h.out⟩
theorem At_rnd_exit {id : Nat} (h : At C (Q (.exit id)) g l) : At C (PRnd C y Q m (.exit id)) g l := ⟨h.out⟩
theorem At_rnd_ret (h : At C (Q .ret) g l) : At C (PRnd C y Q m .ret) g l := ⟨h.out⟩
end rounds
section ops
variable {C : Ctx} {g : Regs} {l : List HP}
end ops
theorem Reads.sub1 {R : HP} {m cap : Nat} {b o : Nat} {cs : List Value} (h : Reads R 1 m (Option.some ⟨b, o, none⟩) cap cs) (k n cap' : Nat) (hk : k + n ≤ m) : Reads R 1 n (Option.some ⟨b, o + k, none⟩) cap' ((cs.drop k).take n) := by
  have hl := h.len
  refine ⟨by simp; omega, (fun h => by cases h), fun W l w hs hm i hi => ⟨b, o + k, rfl, ?_⟩⟩
  obtain ⟨b', o', e, hc⟩ := h.cell W l w hs hm (k + i) (by omega)
  injection e with e
  injection e with e1 e2
  subst e1 e2
  rw [show o + k + i = o + (k + i) by omega, hc, List.getElem?_take_of_lt (by omega), List.getElem?_drop]
theorem Reads.zero {R : HP} {a : Addr} {cap sz : Nat} : Reads R sz 0 (Option.some a) cap [] := ⟨by simp, (fun h => by cases h), fun _ _ _ _ _ i hi => by simp at hi⟩
open Go.RowKit
def rowz (T sz : Nat) (a : Option Addr) (n cap : Nat) (cs : List Value) : HP := fun h => (n = 0 ∧ cap = 0 ∧ cs = []) ∨ row T sz a n cap cs h
theorem rowz_row {T sz n cap : Nat} {a : Option Addr} {cs : List Value} {l : List HP} {H : PH} (h : Stars (row T sz a n cap cs :: l) H) : Stars (rowz T sz a n cap cs :: l) H := h.weak fun _ => .inr
theorem rowz_nil {T sz : Nat} {a : Option Addr} {l : List HP} {H : PH} (h : Stars l H) : Stars (rowz T sz a 0 0 [] :: l) H :=
  (row_nil (T := T) (sz := sz) h).weak fun _ _ => .inl ⟨rfl, rfl, rfl⟩
theorem rowz_len {T sz m cap : Nat} {a : Option Addr} {cs : List Value} {W : World} {l : List HP} {w : World} (hs : Sat W l w) (hm : rowz T sz a m cap cs ∈ l) : cs.length = m * sz ∧ (a = none → m = 0 ∧ cap = 0) ∧ m ≤ cap := by
  obtain ⟨h1, s1, hp⟩ := hs.stars.mem hm
  rcases hp with ⟨rfl, rfl, rfl⟩ | ⟨rfl, rfl, rfl, rfl⟩ | ⟨b, pre, spare, rfl, e1, e2, e3, hb⟩
  · simp
  · simp
  · exact ⟨e1, (fun h => by cases h), e2⟩
theorem Reads.rowz {T sz m cap : Nat} {a : Option Addr} {cs : List Value} (hl : cs.length = m * sz) (hn : a = none → m = 0 ∧ cap = 0) : Reads (rowz T sz a m cap cs) sz m a cap cs := by
  refine ⟨hl, hn, fun W l w hs hm i hi => ?_⟩
  obtain ⟨h1, s1, hp⟩ := hs.stars.mem hm
  rcases hp with ⟨rfl, rfl, rfl⟩ | ⟨rfl, rfl, rfl, rfl⟩ | ⟨b, pre, spare, rfl, e1, e2, e3, hb⟩
  · simp at hi
  · simp at hi
  · have hb' : w.heap[b]? = Option.some (.cells (pre ++ cs ++ spare).toArray T (0, 0)) := s1 _ _ hb
    refine ⟨b, pre.length, rfl, ?_⟩
    rw [cell_of hb', List.append_assoc, List.getElem?_append_right (by omega), Nat.add_sub_cancel_left, List.getElem?_append_left (by omega)]
section facts
variable {C : Ctx} {g : Regs} {l : List HP}
theorem J_rowzf {c : Code} {Q : Post} {T sz m cap i : Nat} {a : Option Addr} {cs : List Value} {r : List HP} (hi : pick1 l i = some (rowz T sz a m cap cs, r)) (h : cs.length = m * sz ∧ (a = none → m = 0 ∧ cap = 0) ∧ m ≤ cap → J C c Q g l) : J C c Q g l :=
  J_fact _ (fun w hs => rowz_len hs (List.mem_append_left _ (pick1_mem hi))) h
theorem JO_rowz {opl os : List Oper} {Q : Post} {T sz m cap i : Nat} {a : Option Addr} {cs : List Value} {r : List HP} (hi : pick1 l i = some (rowz T sz a m cap cs, r)) (h1 : JO C opl Q os g (row T sz a m cap cs :: r)) (h2 : m = 0 → cap = 0 → cs = [] → JO C opl Q os g r) : JO C opl Q os g l := by
  refine ⟨fun ac w hf hs => ?_⟩
  have hs' : Sat C.W (rowz T sz a m cap cs :: (r ++ C.fr)) w := hs.perm ((pick1_perm hi).append_right _)
  obtain ⟨x1, x2, ap, s1, s2, hp, hl⟩ := hs'.stars
  rcases hp with ⟨rfl, rfl, rfl⟩ | hp
  · exact (h2 rfl rfl rfl).out ac w hf ⟨hs'.os, hs'.tape, hs'.output, hl.mono s2⟩
  · exact h1.out ac w hf ⟨hs'.os, hs'.tape, hs'.output, x1, x2, ap, s1, s2, hp, hl⟩
end facts
theorem rowz_tail {T n cap b o : Nat} {x : Value} {cs : List Value} {l : List HP} {H : PH} (h : Stars (rowz T 1 (some ⟨b, o, none⟩) (n + 1) cap (x :: cs) :: l) H) :
    Stars (rowz T 1 (if cap = 1 then some ⟨b, o, none⟩ else some ⟨b, o + 1, none⟩) n (cap - 1) cs :: l) H :=
  h.weak fun hh hp => by
    rcases hp with ⟨h0, _, _⟩ | ⟨h0, _⟩ | ⟨b', pre, spare, e, e1, e2, e3, hb⟩
    · omega
    · cases h0
    · injection e with e
      injection e with ea eb
      subst ea
      simp only [List.length_cons] at e1
      by_cases hc : cap = 1
      · left
        have : n = 0 := by omega
        subst this
        exact ⟨rfl, by omega, List.eq_nil_of_length_eq_zero (by omega)⟩
      · right
        rw [if_neg hc]
        refine .inr ⟨b, pre ++ [x], spare, ?_, by omega, by omega, by omega, by simpa using hb⟩
        rw [eb]; simp
section ops
variable {C : Ctx} {g : Regs} {l : List HP}
theorem OL_append0 {T e s1 s2 sz by_ : Nat} {d : TD} {z ze : List Value} {x y : Operand} {a : Option Addr} {m T2 : Nat} {news : List Value} {v2 : Value} {i2 : TyI} (ht : look C.ti T = some ⟨.slice e, s1, s2, z⟩) (he : look C.ti e = some ⟨d, sz, by_, ze⟩) (hz : ze.length = sz)
    (hx : ev g x = some (.slice a 0 0)) (hy : ev g y = some v2) (hm : 0 < m) (hsrc : Src C l sz m v2 news)
    (hT2 : look C.ti T2 = some i2) (hni : ∀ k, i2.d ≠ .int k) (hb : (2 * (0 + m) + 1024) * by_ ≤ 140737488355328) (hnm : 0 + m < 9223372036854775807) (hby : by_ ≠ 0) :
    OpL C g l (.call { callee := .builtin .append, args := #[x, y], argTypes := #[T, T2] }) (fun u l' => ∃ a' cap', u = .slice a' m cap' ∧ l' = row e sz a' m cap' news :: l) :=
  ⟨(by intro c h; cases h), fun dst ty pos af gd ac w hf hs K Q kk => by
    obtain ⟨_, d2, _, _, hu2, _, ed2, _⟩ := tyView_parts (C.ok.look hT2)
    have hni' : ∀ k, d2 ≠ .int k := fun k h => hni k (by rw [← ed2, h]; rfl)
    have hu := und_slice (C.ok.look ht) rfl
    have hsz' : ∀ w, (sizeOf e).run C.P w = .ok sz w := fun w => run_sizeOf w (C.ok.look he)
    obtain ⟨ft, _, zv, hft, _, hzv, _, _, hfb, hzc⟩ := tyView_parts (C.ok.look he)
    have hf1 : ∀ w, (typeInfo e).run C.P w = .ok ft w := fun w => run_typeInfo w hft
    have hz1 : ∀ w, (zeroValue e).run C.P w = .ok zv w := fun w => by simp [zeroValue, Sem.run_bind, run_typeInfo w hft, Result.andThen, hzv, Pure.pure]
    have hzs : zv.cells.size = sz := by rw [← hz, ← Array.length_toList]; exact congrArg List.length hzc
    obtain ⟨hlen, hlo, hread⟩ := hsrc
    have hold : ∀ k, (Builtin.firstCells sz 0 (.slice a 0 0)).run C.P { w with drawn := k } = .ok ([] : List Value).toArray { w with drawn := k } := by
      intro k
      cases a <;> simp [Builtin.firstCells, loadCells, loadCellsFrom, Pure.pure, Sem.run]
    have hnew : ∀ k, (Builtin.firstCells sz m v2).run C.P { w with drawn := k } = .ok news.toArray { w with drawn := k } := fun k => hread _ (hs.drawn k)
    obtain ⟨A1, A2⟩ := run_append (ty := ty) hu hu2 hni' hsz' hf1 hfb hz1 hlo hold hnew hb hnm hby
    obtain ⟨c, hc, hr⟩ := A2 (by omega)
    have hs2 := (hs.drawn (w.drawn + 1)).alloc (.cells ([] ++ news ++ (Builtin.zeroCells zv.cells (c - (0 + m))).toList).toArray e (0, 0))
    have hs3 : Sat C.W ((row e sz (some ⟨w.heap.size, 0, none⟩) m c news :: l) ++ C.fr) (({ w with drawn := w.drawn + 1 } : World).alloc (.cells ([] ++ news ++ (Builtin.zeroCells zv.cells (c - (0 + m))).toList).toArray e (0, 0))) := by
      refine ⟨hs2.os, hs2.tape, hs2.output, ?_⟩
      refine row_blk (spare := (Builtin.zeroCells zv.cells (c - (0 + m))).toList) (by simpa [blk] using hs2.stars) hlen (by omega) ?_
      rw [zeroCells_len, hzs, Nat.zero_add]
    have e0 : Value.slice (some ⟨w.heap.size, 0, none⟩) (0 + m) c = Value.slice (some ⟨w.heap.size, 0, none⟩) m c := by rw [Nat.zero_add]
    rw [e0] at hr
    have := run_builtin_of (P := C.P) (ρ := ac.eval) (b := .append) (xs := #[x, y]) (ts := #[T, T2]) (w := w) (d := dst) (ty := ty) (pos := pos) (af := af) (gd := gd) (n := .value (.slice (some ⟨w.heap.size, 0, none⟩) m c)) (w' := ({ w with drawn := w.drawn + 1 } : World).alloc (.cells ([] ++ news ++ (Builtin.zeroCells zv.cells (c - (0 + m))).toList).toArray e (0, 0))) (by
      simp only [builtin, List.map_toArray, List.map_cons, List.map_nil, hf.ev hx, hf.ev hy]
      rw [Sem.run_bind, hr]; rfl)
    rw [this]
    exact kk _ _ _ ⟨_, c, rfl, rfl⟩ hs3⟩
end ops
open Go.RowKit
def DoesV (P : Program) (y : Value) (args : List Value) (pre : List HP) (post : Value → List HP → Prop) : Prop :=
  (∃ (f : FuncId) (fi ca : Array Value), y = .func (.func f) fi ca ∧ Does P f (fi.toList ++ (args ++ ca.toList)) pre post) ∨
  (∃ l : Nat, y = .func (.yield l) #[] #[] ∧ ∀ (W : World) (fr : List HP) (w : World), Sat W (pre ++ fr) w →
    YieldAt Fence.wide 0 P l args.toArray w fun e w' => ∃ v l', e = .returned v ∧ post v l' ∧ Sat W (l' ++ fr) w')
theorem DoesV.of {P : Program} {f : FuncId} {fi ca : Array Value} {args : List Value} {pre : List HP} {post : Value → List HP → Prop} (h : Does P f (fi.toList ++ (args ++ ca.toList)) pre post) : DoesV P (.func (.func f) fi ca) args pre post := .inl ⟨f, fi, ca, rfl, h⟩
theorem Does.pre {P : Program} {f : FuncId} {args : List Value} {pre pre' : List HP} {post : Value → List HP → Prop} (h : Does P f args pre post) (k : ∀ H, Stars pre' H → Stars pre H) : Does P f args pre' post :=
  ⟨h.1, fun W fr w hs => h.2 W fr w (hs.lift k)⟩
theorem DoesV.pre {P : Program} {y : Value} {args : List Value} {pre pre' : List HP} {post : Value → List HP → Prop} (h : DoesV P y args pre post) (k : ∀ H, Stars pre' H → Stars pre H) : DoesV P y args pre' post := by
  rcases h with ⟨f, fi, ca, e, hd⟩ | ⟨l, e, hd⟩
  · exact .inl ⟨f, fi, ca, e, hd.pre k⟩
  · exact .inr ⟨l, e, fun W fr w hs => hd W fr w (hs.lift k)⟩
section ops
variable {C : Ctx} {g : Regs} {l : List HP}
theorem OL_callV {x : Operand} {args : Array Operand} {ts : Array TypeId} {y : Value} {vas : List Value} {pre r : List HP} {post : Value → List HP → Prop}
    (hx : ev g x = some y) (ha : evs g args.toList = some vas) (hs : DoesV C.P y vas pre post) (hp : l.Perm (pre ++ r)) :
    OpL C g l (.call { callee := .value x, args := args, argTypes := ts }) (fun v l' => ∃ l1, post v l1 ∧ l' = l1 ++ r) := by
  rcases hs with ⟨f, fi, ca, rfl, hd⟩ | ⟨k, rfl, hd⟩
  · exact OL_callP hx ha rfl hd hp
  · refine ⟨(by intro c h; cases h), fun dst ty pos af gd a w hf hsat K Q kk => ?_⟩
    have e1 : args.map a.eval = vas.toArray := arr_of (hf.evs ha)
    have hs' : Sat C.W (pre ++ (r ++ C.fr)) w := (hsat.perm (hp.append_right _)).perm (by rw [List.append_assoc])
    obtain ⟨fn, tmps, assign, body, hy, hr⟩ := hd C.W (r ++ C.fr) w hs'
    have e2 : #[] ++ vas.toArray = vas.toArray := by simp
    simp only [execOp, resolve, e1, hf.ev hx, Deferred.ofValue, Sem.run_bind, Sem.run, Result.andThen, Pure.pure, invoke, e2]
    rw [hy]
    refine ⟨fun h => (by cases h), ?_⟩
    refine RoundIn.mono (F := FR C.r) (n := 0 - 1) hr ?_
    rintro e w' ⟨v, l', rfl, hpost, hsat'⟩
    exact kk _ _ _ ⟨l', hpost, rfl⟩ (hsat'.perm (by rw [List.append_assoc]))
end ops
structure IsRec (C : Ctx) (g : Regs) (ps : List Nat) (assign body : Code) (R : LoopState → Option Code → Loop) : Prop where
  ex : ∃ (fn : FuncId) (tm : Array Value) (D : Nat), Fits C g ⟨tm, C.D⟩ ∧ R = fun st pe => { state := st, pending := pe, fn := fn, tmps := tm, params := ps.toArray, assign := assign, body := body, defers := D }
def setG : List (Nat × Value) → Regs → Regs
  | [], g => g
  | p :: r, g => setG r (p :: g)
theorem Fits.setG {C : Ctx} {z : List (Nat × Value)} (hz : ∀ p ∈ z, Nat.blt p.1 C.N = true) : ∀ {g : Regs} {tm : Array Value}, Fits C g ⟨tm, C.D⟩ → Fits C (setG z g) ⟨z.foldl (fun t p => t.setIfInBounds p.1 p.2) tm, C.D⟩ := by
  induction z with
  | nil => exact fun h => h
  | cons p z ih =>
    intro g tm h
    exact ih (fun q hq => hz q (.tail _ hq)) (h.put (hz p (.head _)))
def PEnd (C : Ctx) (k : Nat) (post : Value → List HP → Prop) : Post :=
  roundPost C.P k fun e w' => ∃ v l', e = .returned v ∧ post v l' ∧ Sat C.W (l' ++ C.fr) w'
def PAsg (C : Ctx) (k : Nat) (body : Code) (post : Value → List HP → Prop) : Post :=
  Exit.then (fun a₁ w₁ => ∃ w₂, (Instr.beginRound k).run C.P w₁ = .ok () w₂ ∧ body.wpIn (FR C.r) 0 C.P (PEnd C k post) a₁ w₂) (fun _ _ _ => False)
theorem DoesV.yield {P : Program} {ti : TIs} {ok : TIok P ti} {r0 : Option Nat} {N : Nat} {D : List Deferred} {W0 : World} {fr0 : List HP} {g : Regs} {ps : List Nat} {assign body : Code} {R : LoopState → Option Code → Loop}
    (hrec : IsRec ⟨P, ti, ok, r0, N, D, W0, fr0⟩ g ps assign body R) {k : Nat} {args : List Value} {pre : List HP} {post : Value → List HP → Prop}
    (hlen : args.length = ps.length) (hN : ∀ p ∈ ps, Nat.blt p N = true)
    (h : ∀ (W : World) (fr : List HP), J ⟨P, ti, ok, some k, N, [], W, fr⟩ assign (PAsg ⟨P, ti, ok, some k, N, [], W, fr⟩ k body post) (setG (ps.zip args) g) (pt k (.loop (R .ready none)) :: pre)) :
    DoesV P (.func (.yield k) #[] #[]) args (pt k (.loop (R .ready none)) :: pre) post := by
  refine .inr ⟨k, rfl, fun W fr w hs => ?_⟩
  obtain ⟨fn, tm, Db, hfit, rfl⟩ := hrec.ex
  have hl := hs.at (l := (pt k _ :: pre) ++ fr) (.head _)
  have hy := run_yield (P := P) (args := args.toArray) hl (by simp [hlen])
  refine ⟨fn, _, assign, body, hy, roundIn_of_wpIn trivial ?_⟩
  have hfit2 : Fits ⟨P, ti, ok, some k, N, [], W, fr⟩ g ⟨tm, []⟩ := ⟨rfl, hfit.2.1, hfit.2.2⟩
  have hz : ∀ p ∈ ps.zip args, Nat.blt p.1 N = true := fun p hp => hN p.1 (List.of_mem_zip hp).1
  have hfit3 := Fits.setG (C := ⟨P, ti, ok, some k, N, [], W, fr⟩) (z := ps.zip args) hz hfit2
  have e : (ps.toArray.zip args.toArray).foldl (fun t (p, v) => t.setIfInBounds p v) tm = (ps.zip args).foldl (fun t p => t.setIfInBounds p.1 p.2) tm := by
    rw [← Array.foldl_toList]
    simp
  simp only []
  rw [e]
  exact (h W fr).out _ w hfit3 hs
section rounds
variable {P : Program} {ti : TIs} {ok : TIok P ti} {N : Nat} {D : List Deferred} {W : World} {fr : List HP} {g g0 : Regs} {l r : List HP} {k i : Nat} {ps : List Nat} {assign body : Code} {R : LoopState → Option Code → Loop} {post : Value → List HP → Prop} {C0 : Ctx}
theorem At_asg (hrec : IsRec C0 g0 ps assign body R) (m : pick1 l i = some (pt k (.loop (R .ready none)), r))
    (h : J ⟨P, ti, ok, some k, N, D, W, fr⟩ body (PEnd ⟨P, ti, ok, some k, N, D, W, fr⟩ k post) g (pt k (.loop (R .busy none)) :: r)) :
    At ⟨P, ti, ok, some k, N, D, W, fr⟩ (PAsg ⟨P, ti, ok, some k, N, D, W, fr⟩ k body post .normal) g l :=
  ⟨fun a w hf hs => by
    obtain ⟨fn, tm, Db, hfit, rfl⟩ := hrec.ex
    have hs' : Sat W (pt k _ :: (r ++ fr)) w := hs.perm ((pick1_perm m).append_right _)
    have hl := hs'.at (.head _)
    refine ⟨_, run_beginRound hl rfl, ?_⟩
    exact h.out a _ hf (hs'.setObj _)⟩
theorem At_roundEnd {x : Exit} {pe : Option Code} (hx : x = .normal ∧ pe = none ∨ x = .ret ∧ pe = some .ret ∨ (∃ id, x = .exit id ∧ pe = some (.exit id))) (hrec : IsRec C0 g0 ps assign body R) (m : pick1 l i = some (pt k (.loop (R .busy none)), r))
    {l' : List HP} (hl' : ∀ H, Stars (pt k (.loop (R (if pe.isNone then .ready else .done) pe)) :: r) H → Stars l' H) (h : post (.bool pe.isNone) l') :
    At ⟨P, ti, ok, some k, N, D, W, fr⟩ (PEnd ⟨P, ti, ok, some k, N, D, W, fr⟩ k post x) g l :=
  ⟨fun a w hf hs => by
    obtain ⟨fn, tm, Db, hfit, rfl⟩ := hrec.ex
    have hs' : Sat W (pt k _ :: (r ++ fr)) w := hs.perm ((pick1_perm m).append_right _)
    have hl := hs'.at (.head _)
    have he := run_endRound (P := P) pe hl
    rcases hx with ⟨rfl, rfl⟩ | ⟨rfl, rfl⟩ | ⟨id, rfl, rfl⟩
    · exact ⟨_, _, he, _, l', rfl, h, Sat.lift (l := pt k _ :: r) (hs'.setObj _) hl'⟩
    · exact ⟨_, _, he, _, l', rfl, h, Sat.lift (l := pt k _ :: r) (hs'.setObj _) hl'⟩
    · exact ⟨_, _, he, _, l', rfl, h, Sat.lift (l := pt k _ :: r) (hs'.setObj _) hl'⟩⟩
end rounds
theorem PThen_D {P : Program} {ti : TIs} {ok : TIok P ti} {r : Option Nat} {N : Nat} {D D' : List Deferred} {W : World} {fr : List HP} {y : Code} {Q : Post} : PThen ⟨P, ti, ok, r, N, D, W, fr⟩ y Q = PThen ⟨P, ti, ok, r, N, D', W, fr⟩ y Q := rfl
theorem J_rangeFunc {P : Program} {ti : TIs} {ok : TIok P ti} {N : Nat} {D : List Deferred} {W : World} {fr : List HP} {x : Operand} {ps : List Nat} {assign body : Code} {Q : Post} {g : Regs} {l : List HP} {f : FuncId} {ca : Array Value}
    (hx : ev g x = some (.func (.func f) #[] ca))
    (h : ∀ (k d : Nat) (R : LoopState → Option Code → Loop), IsRec ⟨P, ti, ok, none, N, D, W, fr⟩ g ps assign body R → ∃ (pre r : List HP) (post : Value → List HP → Prop),
      (∀ H, Stars (pt k (.loop (R .ready none)) :: pt d (.deferred (some [])) :: l) H → Stars (pre ++ r) H) ∧ Does P f (.func (.yield k) #[] #[] :: ca.toList) pre post ∧
      ∀ v l1, post v l1 → ∃ (st : LoopState) (pe : Option Code) (rest : List HP), st ≠ .busy ∧ (∀ H, Stars (l1 ++ r) H → Stars (pt k (.loop (R st pe)) :: rest) H) ∧
        (pe = none → At ⟨P, ti, ok, none, N, ⟨.collected d, #[]⟩ :: D, W, fr⟩ (Q .normal) g rest) ∧ (∀ c, pe = some c → J ⟨P, ti, ok, none, N, ⟨.collected d, #[]⟩ :: D, W, fr⟩ c Q g rest)) :
    J ⟨P, ti, ok, none, N, D, W, fr⟩ (.rangeFunc x ps.toArray assign body) Q g l := by
  refine ⟨fun a w hf hs => wpIn_rangeFunc ?_⟩
  intro fn hfn
  obtain ⟨R, hR⟩ : ∃ R : LoopState → Option Code → Loop, R = fun st pe => { state := st, pending := pe, fn := fn, tmps := a.tmps, params := ps.toArray, assign := assign, body := body, defers := w.heap.size } := ⟨_, rfl⟩
  have hrec : IsRec ⟨P, ti, ok, none, N, D, W, fr⟩ g ps assign body R := ⟨fn, a.tmps, w.heap.size, ⟨rfl, hf.2.1, hf.2.2⟩, hR⟩
  obtain ⟨pre, r, post, hperm, hd, hk⟩ := h (w.heap.size + 1) w.heap.size R hrec
  have hs1 : Sat W (pt (w.heap.size + 1) (.loop (R .ready none)) :: pt w.heap.size (.deferred (some [])) :: (l ++ fr)) ((w.alloc (.deferred (some []))).alloc (.loop (R .ready none))) := by
    have := (hs.alloc (.deferred (some []))).alloc (.loop (R .ready none))
    rwa [World.size_alloc] at this
  have hs2 : Sat W (pre ++ (r ++ fr)) ((w.alloc (.deferred (some []))).alloc (.loop (R .ready none))) := by
    rw [← List.append_assoc]
    exact Sat.lift (l := pt (w.heap.size + 1) (.loop (R .ready none)) :: pt w.heap.size (.deferred (some [])) :: l) hs1 hperm
  refine ⟨w.heap.size + 1, [{ target := .collected w.heap.size, args := #[] }], (w.alloc (.deferred (some []))).alloc (.loop (R .ready none)), { target := .fn (.func f) ca, args := #[.func (.yield (w.heap.size + 1)) #[] #[]] }, (w.alloc (.deferred (some []))).alloc (.loop (R .ready none)), f,
    #[.func (.yield (w.heap.size + 1)) #[] #[]] ++ ca, (w.alloc (.deferred (some []))).alloc (.loop (R .ready none)), ?_, ?_, ?_, ?_, fun h => (by cases h), ?_⟩
  · rw [hR]; exact run_enterLoop_outer _ _ _ _ _
  · simp only [resolve, hf.ev hx]
    simp [go_sem]
  · intro f' _; trivial
  · have := hd.1 (#[.func (.yield (w.heap.size + 1)) #[] #[]] ++ ca) ((w.alloc (.deferred (some []))).alloc (.loop (R .ready none)))
    simpa [invoke, go_sem] using this
  · refine (callsIn_wide (n := 0 - 1)).2 ?_
    have hc := hd.2 W (r ++ fr) _ hs2
    have e : (Value.func (.yield (w.heap.size + 1)) #[] #[] :: ca.toList).toArray = #[.func (.yield (w.heap.size + 1)) #[] #[]] ++ ca := by
      apply Array.ext'; simp
    rw [e] at hc
    refine hc.mono ?_
    rintro e w' ⟨v, l1, rfl, hpost, hsat⟩
    obtain ⟨st, pe, rest, hst, hl, hn, hj⟩ := hk v l1 hpost
    have hs3 : Sat W (pt (w.heap.size + 1) (.loop (R st pe)) :: (rest ++ fr)) w' := by
      have := Sat.lift (l := l1 ++ r) (l' := pt (w.heap.size + 1) (.loop (R st pe)) :: rest) (fr := fr) (by rw [List.append_assoc]; exact hsat) hl
      exact this
    have hb := hs3.at (.head _)
    have hrun := run_endLoop (P := P) hb (by rw [hR]; exact hst)
    have hpe : (R st pe).pending = pe := by rw [hR]
    rw [hpe] at hrun
    refine ⟨pe, _, hrun, ?_⟩
    have hs5 : ∀ o, Sat W (rest ++ fr) (w'.putObj (w.heap.size + 1) o) := fun o => (hs3.setObj o).to fun H h => h.tail
    have hf5 : Fits ⟨P, ti, ok, none, N, ⟨.collected w.heap.size, #[]⟩ :: D, W, fr⟩ g { a with defers := [{ target := .collected w.heap.size, args := #[] }] ++ a.defers } := ⟨by show _ :: a.defers = _ :: D; rw [hf.1], hf.2.1, hf.2.2⟩
    cases pe with
    | none => exact (hn rfl).out _ _ hf5 (hs5 _)
    | some c => exact (hj c rfl).out _ _ hf5 (hs5 _)
def FPM (C : Ctx) (fn : Func) (post : Value → List HP → Prop) : Post :=
  bodyPostM Fence.wide 0 C.P fn fun e w' => ∃ v l', e = .returned v ∧ post v l' ∧ Sat C.W (l' ++ C.fr) w'
theorem Does.ofM {P : Program} {ti : TIs} (ok : TIok P ti) {f : FuncId} {fn : Func} {c : Code} {args : List Value} {pre : List HP} {post : Value → List HP → Prop} (hf : P.funcs[f]? = some fn)
    (hname : (fn.name == "runtime.NumGoroutine") = false) (hb : fn.body = some c) {N : Nat} (hN : fn.ntmps = N) (hlen : Nat.ble args.length N = true)
    (h : ∀ (W : World) (fr : List HP), J ⟨P, ti, ok, none, N, [], W, fr⟩ c (FPM ⟨P, ti, ok, none, N, [], W, fr⟩ fn post) (regsOf args 0) pre) : Does P f args pre post := by
  refine ⟨fun args w => Go.Proofs.enters_of hf hname hb args w, fun W fr w hs => ?_⟩
  refine (callsIn_wide (n := 0)).1 (callsIn_of_wp_marks hf hb trivial ?_)
  refine (h W fr).out _ _ ⟨rfl, ?_, ?_⟩ hs
  · have := Nat.le_of_ble_eq_true hlen
    simp [hN]; omega
  · intro t v e
    obtain ⟨_, e⟩ := look_regsOf e
    have hlt : t < args.length := by
      rcases Nat.lt_or_ge t args.length with h' | h'
      · exact h'
      · simp [h'] at e
    simp at e
    simp [Array.getElem?_append, hlt]
    simpa [hlt] using e
section returns
variable {P : Program} {ti : TIs} {ok : TIok P ti} {N d i : Nat} {W : World} {fr : List HP} {fn : Func} {post : Value → List HP → Prop} {g : Regs} {l r : List HP}
theorem At_retM {rs : List ResultVar} {vs : List Value} (hr : fn.results.toList = rs) (m : pick1 l i = some (pt d (.deferred (some [])), r)) (hv : RV ⟨P, ti, ok, none, N, [⟨.collected d, #[]⟩], W, fr⟩ g r rs vs) {v : Value} (hret : retV vs = v)
    {l' : List HP} (hp : ∀ H, Stars r H → Stars l' H) (h : post v l') : At ⟨P, ti, ok, none, N, [⟨.collected d, #[]⟩], W, fr⟩ (FPM ⟨P, ti, ok, none, N, [], W, fr⟩ fn post .ret) g l :=
  ⟨fun a w hf hs => by
    have hs' : Sat W (pt d (.deferred (some [])) :: (r ++ fr)) w := hs.perm ((pick1_perm m).append_right _)
    have hb := hs'.at (.head _)
    show LeavesInM Fence.wide 0 P fn a.tmps _ a.defers .returning w
    rw [show a.defers = [⟨.collected d, #[]⟩] from hf.1]
    refine ⟨by simp, .inl ⟨d, _, rfl, run_takeDeferred hb, ?_⟩⟩
    have hs2 : Sat W (r ++ fr) (w.putObj d (.deferred none)) := (hs'.setObj (.deferred none)).to fun H h => h.tail
    exact ⟨_, run_results hr hv hf hs2, _, l', rfl, by rw [hret]; exact h, hs2.lift hp⟩⟩
end returns
open Go.RowKit
inductive Plan where
  | fin
  | q (i : Nat) (p : Plan)
  | l1 (i : Nat) (p : Plan)
  | l2 (i : Nat) (p : Plan) (j : Nat) (p' : Plan)
  | l3 (i : Nat) (p : Plan) (j : Nat) (p' : Plan) (k : Nat) (p'' : Plan)
def Plan.dep : Plan → Nat
  | .fin => 0
  | .q _ p => p.dep + 1
  | .l1 _ p => p.dep + 1
  | .l2 _ p _ _ => p.dep + 1
  | .l3 _ p _ _ _ _ => p.dep + 1
def lateB (ks : List Nat) (j : Nat) : Bool := Nat.beq (kindAt ks j) 6
def ndB (ks : List Nat) (n : Nat) (listed : Array Bool) : Bool := (List.range n).all fun j => !lateB ks j || !listed.getD j false
def chkF (ops : Array Oper) (ks : List Nat) : Plan → Array Bool → Bool
  | .fin, listed => (Region.ready .any ops listed).isEmpty
  | .q i p, listed => Region.free .any ops listed i && (Region.ready .any ops listed).contains i &&
      (Nat.beq (kindAt ks i) 0 || (Nat.beq (kindAt ks i) 5 && waitB ops i (dsOf ops i) && (List.range ops.size).all fun j => !lateB ks j || (dsOf ops i).contains j)) && chkF ops ks p (listed.setIfInBounds i true)
  | .l1 i p, listed => Region.ready .any ops listed == [i] && chkF ops ks p (listed.setIfInBounds i true)
  | .l2 i p j p', listed => (Region.ready .any ops listed == [i, j] || Region.ready .any ops listed == [j, i]) && Nat.beq p.dep p'.dep && chkF ops ks p (listed.setIfInBounds i true) && chkF ops ks p' (listed.setIfInBounds j true)
  | .l3 i p j p' k p'', listed => (!(Region.ready .any ops listed).isEmpty && (Region.ready .any ops listed).all fun q => Nat.beq q i || Nat.beq q j || Nat.beq q k) && Nat.beq p.dep p'.dep && Nat.beq p.dep p''.dep &&
      chkF ops ks p (listed.setIfInBounds i true) && chkF ops ks p' (listed.setIfInBounds j true) && chkF ops ks p'' (listed.setIfInBounds k true)
section draws
variable {r : Option Nat} {P : Program} {ops : Array Oper} {Q : Post} {Kw Kn : World → Prop} {nd : Array Bool → Bool}
def wpN (r : Option Nat) (P : Program) (ops : Array Oper) (Q : Post) (nd : Array Bool → Bool) (Kw : World → Prop) : Nat → Array Bool → Act → World → Prop
  | 0, listed, a, w => (nd listed = true → Kw w) ∧ Region.ready .any ops listed = [] ∧ Q .normal a w
  | fuel + 1, listed, a, w => (nd listed = true → Kw w) ∧ (Region.ready .any ops listed = [] → Q .normal a w) ∧ ∀ i ∈ Region.ready .any ops listed, wpOpIn (FR r) 0 P ops Q i (wpN r P ops Q nd Kw fuel (listed.setIfInBounds i true)) a w
theorem wpN.kept : ∀ {fuel : Nat} {listed : Array Bool} {a : Act} {w : World}, wpN r P ops Q nd Kw fuel listed a w → nd listed = true → Kw w
  | 0, _, _, _, h => h.1
  | _ + 1, _, _, _, h => h.1
theorem wpN.any : ∀ {fuel : Nat} {listed : Array Bool} {a : Act} {w : World}, wpN r P ops Q nd Kw fuel listed a w → wpAnyIn (FR r) 0 P .any ops Q fuel listed a w
  | 0, _, _, _, h => ⟨h.2.1, h.2.2⟩
  | _ + 1, _, _, _, h => ⟨h.2.1, fun i hi => wpOpIn_mono (fun _ _ h3 => h3.any) (h.2.2 i hi)⟩
theorem wN_first {i : Nat} {oi : Oper} {v : Value} (T : Tame ops) (hi : ops[i]? = some oi) (hQ : ∀ c a w, ¬ Q (.panic c) a w)
    (hKn : ∀ (listed : Array Bool) (w : World), Closed ops listed → listed.getD i false = false → (nd (listed.setIfInBounds i true) = true → Kw w) → Kn w)
    (hnd : ∀ (listed : Array Bool) (w : World), Closed ops listed → listed.getD i false = false → (nd (listed.setIfInBounds i true) = true → Kw w) → nd listed = true → Kw w) :
    ∀ (fuel : Nat) (listed : Array Bool) (a : Act) (w : World), FreeAt ops listed i oi → i ∈ Region.ready .any ops listed → Closed ops listed → YieldsK P ops Kn oi v a →
      wpN r P ops Q nd Kw fuel (listed.setIfInBounds i true) (a.put oi.dst v) w → wpN r P ops Q nd Kw (fuel + 1) listed a w := by
  intro fuel
  induction fuel with
  | zero =>
    intro listed a w _ hr hcl hy H
    have hun := unlisted_false (mem_ready.1 hr).1
    refine ⟨hnd listed w hcl hun H.kept, fun h => (by rw [h] at hr; cases hr), fun j hj => ?_⟩
    by_cases hji : j = i
    · subst hji; exact wOp_of_yields T hi hy (hKn listed w hcl hun H.kept) H
    · have := ready_mono hj hji
      rw [H.2.1] at this
      cases this
  | succ fuel ih =>
    intro listed a w hfree hr hcl hy H
    have hun := unlisted_false (mem_ready.1 hr).1
    refine ⟨hnd listed w hcl hun H.kept, fun h => (by rw [h] at hr; cases hr), fun j hj => ?_⟩
    by_cases hji : j = i
    · subst hji; exact wOp_of_yields T hi hy (hKn listed w hcl hun H.kept) H
    · obtain ⟨hjun, oj, hoj, _⟩ := mem_ready.1 hj
      have h2 := wOp_put T (fun cs b => T.sel i oi cs b hi) hoj (hfree j oj hoj hji hjun (ready_no_edge hr hj hoj)) hQ hy (H.2.2 j (ready_mono hj hji))
      refine wpOpIn_mono (fun a' w' h3 => ih (listed.setIfInBounds j true) a' w' (hfree.set hjun) (ready_mono hr (Ne.symm hji)) (hcl.set hj) h3.1 ?_) h2
      rw [Array.setIfInBounds_comm _ _ hji]
      exact h3.2
end draws
structure JF (C : Ctx) (opl : List Oper) (Q : Post) (kp : List HP) (ks : List Nat) (plan : Plan) (g : Regs) (l : List HP) : Prop where
  out : Tame opl.toArray → (∀ c a w, ¬ Q (.panic c) a w) → ∀ listed, chkF opl.toArray ks plan listed = true → Closed opl.toArray listed → (ndB ks opl.length listed = true → ∀ w, Sat C.W (l ++ C.fr) w → Sat C.W kp w) →
    ∀ a w, Fits C g a → Sat C.W (l ++ C.fr) w → wpN C.r C.P opl.toArray Q (ndB ks opl.length) (Sat C.W kp) plan.dep listed a w
structure JFO (C : Ctx) (opl : List Oper) (Q : Post) (kp : List HP) (ks : List Nat) (i : Nat) (plan : Plan) (g : Regs) (l : List HP) : Prop where
  out : Tame opl.toArray → (∀ c a w, ¬ Q (.panic c) a w) → ∀ listed, chkF opl.toArray ks plan (listed.setIfInBounds i true) = true → Closed opl.toArray listed → i ∈ Region.ready .any opl.toArray listed → (ndB ks opl.length listed = true → ∀ w, Sat C.W (l ++ C.fr) w → Sat C.W kp w) →
    ∀ a w, Fits C g a → Sat C.W (l ++ C.fr) w → wpOpIn (FR C.r) 0 C.P opl.toArray Q i (wpN C.r C.P opl.toArray Q (ndB ks opl.length) (Sat C.W kp) plan.dep (listed.setIfInBounds i true)) a w
theorem J_plan {C : Ctx} {opl : List Oper} {Q : Post} {g : Regs} {l : List HP} {id : Nat} (kp : List HP) (hkp : ∀ H, Stars l H → Stars kp H) (ks : List Nat) (plan : Plan) (hm : C.P.follows .mixedOrders = true)
    (hc : (tameB opl.toArray && Nat.beq plan.dep opl.length && chkF opl.toArray ks plan (Array.replicate opl.length false)) = true)
    (h : JF C opl (NP Q) kp ks plan g l) : J C (.region id opl.toArray true) Q g l := by
  simp only [Bool.and_eq_true] at hc
  obtain ⟨⟨ht, hlen⟩, hc⟩ := hc
  refine ⟨fun a w hf hs => ?_⟩
  have T := tameB_spec ht
  have hcl : Closed opl.toArray (Array.replicate opl.length false) := by
    intro j oj hj hl
    exfalso
    rcases Nat.lt_or_ge j opl.length with h' | h'
    · simp [h'] at hl
    · simp [h'] at hl
  have hK : ∀ w, Sat C.W (l ++ C.fr) w → Sat C.W kp w := fun w hw => hw.to fun H k => hkp H k.left
  refine wpIn_mono (Q := NP Q) ?_ (fun e a w hq => by cases e <;> first | exact hq | exact hq.elim)
  refine wpIn_region_any hm ?_
  have e : opl.toArray.size = plan.dep := by simpa using (Nat.eq_of_beq_eq_true hlen).symm
  rw [e]
  have e2 : Array.replicate plan.dep false = Array.replicate opl.length false := by rw [Nat.eq_of_beq_eq_true hlen]
  rw [e2]
  exact (h.out T (fun c a w h => h) _ hc hcl (fun _ => hK) a _ hf (hs.drawn _)).any
section rules
variable {C : Ctx} {opl : List Oper} {Q : Post} {kp : List HP} {ks : List Nat} {g : Regs} {l : List HP} {i j : Nat} {p p' : Plan} {o : Op} {ty : TypeId} {pos : String} {af : Array Edge} {gd : Option (Nat × Bool)} {d : Tmp} {dst : Option Tmp} {op : Oper}
theorem JF_fin (h : At C (Q .normal) g l) : JF C opl Q kp ks .fin g l :=
  ⟨fun T hQ listed hc hcl hK a w hf hs => ⟨fun hn => hK hn w hs, by simpa only [chkF, List.isEmpty_iff] using hc, h.out a w hf hs⟩⟩
theorem IsF (h : JF C opl Q kp ks p g l) : JF C opl Q kp ks p g l := h
theorem ndB_of {n : Nat} {ks : List Nat} {listed : Array Bool} : ndB ks n listed = true ↔ ∀ j, j < n → lateB ks j = true → listed.getD j false = false := by
  simp only [ndB, List.all_eq_true, List.mem_range, Bool.or_eq_true, Bool.not_eq_true']
  constructor
  · intro h j hj hl
    rcases h j hj with e | e
    · rw [hl] at e; cases e
    · exact e
  · intro h j hj
    cases hl : lateB ks j with
    | false => exact .inl rfl
    | true => exact .inr (h j hj hl)
theorem JF_take {v : Value} {g' : Regs} (hi : nth opl i = some op) (hy : ∀ a, Fits C g a → YieldsK C.P opl.toArray (fun w => kindAt ks i = 5 → Sat C.W kp w) op v a)
    (hg : ∀ a, Fits C g a → Fits C g' (a.put op.dst v)) (k : JF C opl Q kp ks p g' l) : JF C opl Q kp ks (.q i p) g l := by
  refine ⟨fun T hQ listed hc hcl hK a w hf hs => ?_⟩
  have hi' : opl.toArray[i]? = some op := by rw [List.getElem?_toArray, ← nth_eq]; exact hi
  simp only [chkF, Bool.and_eq_true] at hc
  obtain ⟨⟨⟨hc1, hc2⟩, hc3⟩, hc4⟩ := hc
  have hready : i ∈ Region.ready .any opl.toArray listed := by simpa [List.contains_iff_mem] using hc2
  have hnl : lateB ks i = false := by
    simp only [Bool.or_eq_true, Bool.and_eq_true] at hc3
    unfold lateB
    rcases hc3 with e | ⟨⟨e, _⟩, _⟩
    · rw [Nat.eq_of_beq_eq_true e]; rfl
    · rw [Nat.eq_of_beq_eq_true e]; rfl
  have hset : ∀ L : Array Bool, ndB ks opl.length L = true → ndB ks opl.length (L.setIfInBounds i true) = true := fun L h => by
    rw [ndB_of] at h ⊢
    intro j hj hl
    have hne : i ≠ j := fun e => by subst e; rw [hnl] at hl; cases hl
    rw [getD_set_ne false hne]; exact h j hj hl
  have hlate : kindAt ks i = 5 → ∀ L : Array Bool, Closed opl.toArray L → L.getD i false = false → ndB ks opl.length (L.setIfInBounds i true) = true := fun h5 L hcl hun => by
    simp only [Bool.or_eq_true, Bool.and_eq_true, List.all_eq_true, List.mem_range] at hc3
    rcases hc3 with e | ⟨⟨_, e2⟩, e3⟩
    · rw [h5] at e; cases e
    · apply hset
      rw [ndB_of]
      intro j hj hl
      have h3 := e3 j (by simpa using hj)
      rcases h3 with h3 | h3
      · rw [hl] at h3; cases h3
      · exact (waitB_spec e2).unlisted hcl hun j (by simpa [List.contains_iff_mem] using h3)
  have hrest := k.out T hQ _ hc4 (hcl.set hready) (fun hn => hK (by
    rw [ndB_of] at hn ⊢
    intro j hj hl
    have hne : i ≠ j := fun e => by subst e; rw [hnl] at hl; cases hl
    have := hn j hj hl
    rwa [getD_set_ne false hne] at this)) (a.put op.dst v) w (hg a hf) hs
  refine wN_first (Kn := fun w => kindAt ks i = 5 → Sat C.W kp w) T hi' hQ ?_ ?_ _ listed a w (Region.free_spec hi' hc1) hready hcl (hy a hf) hrest
  · intro L w hcl' hun h h5
    exact h (hlate h5 L hcl' hun)
  · intro L w hcl' hun h hn
    exact h (hset L hn)
theorem JF_l1 (h : JFO C opl Q kp ks i p g l) : JF C opl Q kp ks (.l1 i p) g l :=
  ⟨fun T hQ listed hc hcl hK a w hf hs => by
    simp only [chkF, Bool.and_eq_true, beq_iff_eq] at hc
    obtain ⟨hc1, hc2⟩ := hc
    refine ⟨fun hn => hK hn w hs, fun h0 => (by rw [hc1] at h0; cases h0), fun j hj => ?_⟩
    have hj' : j = i := by rw [hc1] at hj; simpa using hj
    subst hj'
    exact h.out T hQ listed hc2 hcl hj hK a w hf hs⟩
theorem JF_l2 (h1 : JFO C opl Q kp ks i p g l) (h2 : JFO C opl Q kp ks j p' g l) : JF C opl Q kp ks (.l2 i p j p') g l :=
  ⟨fun T hQ listed hc hcl hK a w hf hs => by
    simp only [chkF, Bool.and_eq_true, Bool.or_eq_true, beq_iff_eq] at hc
    obtain ⟨⟨⟨hc1, hd⟩, hc2⟩, hc3⟩ := hc
    have hd := Nat.eq_of_beq_eq_true hd
    refine ⟨fun hn => hK hn w hs, fun h0 => (by rcases hc1 with e | e <;> (rw [e] at h0; cases h0)), fun q hq => ?_⟩
    have hq' : q = i ∨ q = j := by
      rcases hc1 with e | e
      · rw [e] at hq; simpa using hq
      · rw [e] at hq
        have : q = j ∨ q = i := by simpa using hq
        exact this.symm
    rcases hq' with rfl | rfl
    · exact h1.out T hQ listed hc2 hcl hq hK a w hf hs
    · have := h2.out T hQ listed hc3 hcl hq hK a w hf hs
      rw [← hd] at this
      exact this⟩
theorem JFO_loud {R : Value → List HP → Prop} {g' : Value → Regs} (hi : nth opl i = some ⟨dst, o, ty, pos, af, gd⟩) (h : OpL C g l o R) (hw : gw opl g gd = some true)
    (hg : ∀ v a, Fits C g a → Fits C (g' v) (a.put dst v)) (hkp : lateB ks i = true ∨ ∀ v l', R v l' → ∀ H, Stars l' H → Stars kp H) (k : ∀ v l', R v l' → (∃ w, Sat C.W (l' ++ C.fr) w) → JF C opl Q kp ks p (g' v) l') : JFO C opl Q kp ks i p g l := by
  refine ⟨fun T hQ listed hc hcl hr hK a w hf hs => ?_⟩
  have hi' : opl.toArray[i]? = some ⟨dst, o, ty, pos, af, gd⟩ := by rw [List.getElem?_toArray, ← nth_eq]; exact hi
  have hil : i < opl.length := by have := (Array.getElem?_eq_some_iff.1 hi').1; simpa using this
  unfold wpOpIn
  simp only [hi']
  rw [if_pos (gw_true (o := ⟨dst, o, ty, pos, af, gd⟩) hf hw)]
  refine wpIn_of_upon h.nd (h.out _ _ _ _ _ a w hf hs _ _ fun v l' w' hrr hs' => ?_)
  refine (k v l' hrr ⟨w', hs'⟩).out T hQ _ hc (hcl.set hr) (fun hn w hw => ?_) _ _ (hg v a hf) hs'
  rcases hkp with hkp | hkp
  · exfalso
    rw [ndB_of] at hn
    have := hn i hil hkp
    have hlt : i < listed.size := by
      have h1 := (mem_ready.1 hr).1
      rcases Nat.lt_or_ge i listed.size with h' | h'
      · exact h'
      · simp [Array.getElem?_eq_none h'] at h1
    simp [hlt] at this
  · exact hw.to fun H k => hkp v l' hrr H k.left
theorem JFO_l {R : Value → List HP → Prop} (hi : nth opl i = some ⟨some d, o, ty, pos, af, gd⟩) (h : OpL C g l o R) (hw : gw opl g gd = some true) (hN : Nat.blt d C.N = true)
    (hkp : lateB ks i = true ∨ ∀ v l', R v l' → ∀ H, Stars l' H → Stars kp H) (k : ∀ v l', R v l' → (∃ w, Sat C.W (l' ++ C.fr) w) → JF C opl Q kp ks p ((d, v) :: g) l') : JFO C opl Q kp ks i p g l :=
  JFO_loud hi h hw (fun v a hf => hf.put hN) hkp k
theorem JFO_l0 {R : Value → List HP → Prop} (hi : nth opl i = some ⟨none, o, ty, pos, af, gd⟩) (h : OpL C g l o R) (hw : gw opl g gd = some true)
    (hkp : lateB ks i = true ∨ ∀ v l', R v l' → ∀ H, Stars l' H → Stars kp H) (k : ∀ v l', R v l' → (∃ w, Sat C.W (l' ++ C.fr) w) → JF C opl Q kp ks p g l') : JFO C opl Q kp ks i p g l :=
  JFO_loud (g' := fun _ => g) hi h hw (fun v a hf => hf) hkp k
theorem JF_val {v : Value} (hi : nth opl i = some ⟨some d, o, ty, pos, af, gd⟩) (h : OpV C g o v) (hw : gw opl g gd = some true) (hN : Nat.blt d C.N = true) (k : JF C opl Q kp ks p ((d, v) :: g) l) : JF C opl Q kp ks (.q i p) g l :=
  JF_take hi (fun a hf => .inl ⟨gw_true (o := ⟨some d, o, ty, pos, af, gd⟩) hf hw, fun w _ => h.2 _ _ _ _ _ a w hf⟩) (fun a hf => hf.put hN) k
theorem JF_v {v : Value} (hi : nth opl i = some ⟨some d, o, ty, pos, af, gd⟩) (h : pureOp C.ti g o = some v) (hw : gw opl g gd = some true) (hN : Nat.blt d C.N = true) (k : JF C opl Q kp ks p ((d, v) :: g) l) : JF C opl Q kp ks (.q i p) g l :=
  JF_val hi (pureOp_sound h) hw hN k
theorem JF_kept {v : Value} (hi : nth opl i = some ⟨some d, o, ty, pos, af, gd⟩) (hk : kindAt ks i = 5) (h : OpK C g kp o v) (hw : gw opl g gd = some true) (hN : Nat.blt d C.N = true) (k : JF C opl Q kp ks p ((d, v) :: g) l) : JF C opl Q kp ks (.q i p) g l :=
  JF_take hi (fun a hf => .inl ⟨gw_true (o := ⟨some d, o, ty, pos, af, gd⟩) hf hw, fun w hw' => h.out _ _ _ _ _ a hf w (hw' hk)⟩) (fun a hf => hf.put hN) k
theorem JF_to {g' : Regs} {l' : List HP} (hg : SubG g' g) (hl : ∀ H, Stars l H → Stars l' H) (hkp : ∀ H, Stars l' H → Stars kp H) (h : JF C opl Q kp ks p g' l') : JF C opl Q kp ks p g l :=
  ⟨fun T hQ listed hc hcl hK a w hf hs => h.out T hQ listed hc hcl (fun hn w hw => hw.to fun H k => hkp H k.left) a w (hf.sub hg) (hs.lift hl)⟩
theorem JF_cut {α : Type} (p0 : Plan) (G : α → Regs) (L : α → List HP) (main : (∀ z, JF C opl Q kp ks p0 (G z) (L z)) → JF C opl Q kp ks p g l) (h : ∀ z, JF C opl Q kp ks p0 (G z) (L z)) : JF C opl Q kp ks p g l := main h
def JFQ (C : Ctx) (opl : List Oper) (Q : Post) (kp : List HP) (ks : List Nat) (i : Nat) (op : Oper) (p : Plan) (g : Regs) (l : List HP) : Prop := nth opl i = some op → JF C opl Q kp ks (.q i p) g l
theorem JF_op (hi : nth opl i = some op) (k : JFQ C opl Q kp ks i op p g l) : JF C opl Q kp ks (.q i p) g l := k hi
theorem FsO (h : JFQ C opl Q kp ks i op p g l) : JFQ C opl Q kp ks i op p g l := h
theorem FsBin {b : BinOp} {t t' : TypeId} {x y : Operand} (h : JFQ C opl Q kp ks i ⟨dst, .binOp b t x y t', ty, pos, af, gd⟩ p g l) : JFQ C opl Q kp ks i ⟨dst, .binOp b t x y t', ty, pos, af, gd⟩ p g l := h
theorem FsLoad {t : TypeId} {x : Operand} (h : JFQ C opl Q kp ks i ⟨dst, .load t x, ty, pos, af, gd⟩ p g l) : JFQ C opl Q kp ks i ⟨dst, .load t x, ty, pos, af, gd⟩ p g l := h
theorem FsBuild {t : TypeId} {q : Array (Nat × Operand)} (h : JFQ C opl Q kp ks i ⟨dst, .build t q, ty, pos, af, gd⟩ p g l) : JFQ C opl Q kp ks i ⟨dst, .build t q, ty, pos, af, gd⟩ p g l := h
theorem FO_val {v : Value} (h : OpV C g o v) (hw : gw opl g gd = some true) (hN : Nat.blt d C.N = true) (k : JF C opl Q kp ks p ((d, v) :: g) l) : JFQ C opl Q kp ks i ⟨some d, o, ty, pos, af, gd⟩ p g l := fun hi => JF_val hi h hw hN k
theorem FO_v {v : Value} (h : pureOp C.ti g o = some v) (hw : gw opl g gd = some true) (hN : Nat.blt d C.N = true) (k : JF C opl Q kp ks p ((d, v) :: g) l) : JFQ C opl Q kp ks i ⟨some d, o, ty, pos, af, gd⟩ p g l := fun hi => JF_v hi h hw hN k
theorem FO_kept {v : Value} (hk : kindAt ks i = 5) (h : OpK C g kp o v) (hw : gw opl g gd = some true) (hN : Nat.blt d C.N = true) (k : JF C opl Q kp ks p ((d, v) :: g) l) : JFQ C opl Q kp ks i ⟨some d, o, ty, pos, af, gd⟩ p g l := fun hi => JF_kept hi hk h hw hN k
inductive Sel : List HP → List HP → Prop
  | nil {l : List HP} : Sel l []
  | cons {l r kp : List HP} {x : HP} {i : Nat} (m : pick1 l i = some (x, r)) (h : Sel r kp) : Sel l (x :: kp)
theorem Sel.stars {l kp : List HP} (h : Sel l kp) : ∀ {H : PH}, Stars l H → Stars kp H := by
  induction h with
  | nil => exact fun _ => trivial
  | cons m _ ih =>
    intro H hs
    obtain ⟨h1, h2, ap, s1, s2, hp, hl⟩ := hs.perm (pick1_perm m)
    exact ⟨h1, h2, ap, s1, s2, hp, ih hl⟩
end rules
section ops
variable {C : Ctx} {g : Regs} {l : List HP}
theorem Src.mono {l' : List HP} {sz m : Nat} {v : Value} {cs : List Value} (h : Src C l sz m v cs) (k : ∀ w, Sat C.W (l' ++ C.fr) w → Sat C.W (l ++ C.fr) w) : Src C l' sz m v cs := ⟨h.1, h.2.1, fun w hs => h.2.2 w (k w hs)⟩
theorem OL_appendz {T e s1 s2 sz by_ : Nat} {d : TD} {z ze : List Value} {x y : Operand} {a : Option Addr} {m T2 : Nat} {news : List Value} {v2 : Value} {i2 : TyI} (ht : look C.ti T = some ⟨.slice e, s1, s2, z⟩) (he : look C.ti e = some ⟨d, sz, by_, ze⟩) (hz : ze.length = sz)
    (hx : ev g x = some (.slice a 0 0)) (hy : ev g y = some v2) (hsrc : Src C l sz m v2 news)
    (hT2 : look C.ti T2 = some i2) (hni : ∀ k, i2.d ≠ .int k) (hb : (2 * (0 + m) + 1024) * by_ ≤ 140737488355328) (hnm : 0 + m < 9223372036854775807) (hby : by_ ≠ 0) :
    OpL C g l (.call { callee := .builtin .append, args := #[x, y], argTypes := #[T, T2] }) (fun u l' => ∃ a' cap', u = .slice a' m cap' ∧ l' = rowz e sz a' m cap' news :: l) := by
  rcases Nat.eq_zero_or_pos m with rfl | hm
  · refine ⟨(by intro c h; cases h), fun dst ty pos af gd ac w hf hs K Q kk => ?_⟩
    obtain ⟨_, d2, _, _, hu2, _, ed2, _⟩ := tyView_parts (C.ok.look hT2)
    have hni' : ∀ k, d2 ≠ .int k := fun k h => hni k (by rw [← ed2, h]; rfl)
    have hu := und_slice (C.ok.look ht) rfl
    have hsz' : ∀ w, (sizeOf e).run C.P w = .ok sz w := fun w => run_sizeOf w (C.ok.look he)
    obtain ⟨ft, _, zv, hft, _, hzv, _, _, hfb, hzc⟩ := tyView_parts (C.ok.look he)
    have hf1 : ∀ w, (typeInfo e).run C.P w = .ok ft w := fun w => run_typeInfo w hft
    have hz1 : ∀ w, (zeroValue e).run C.P w = .ok zv w := fun w => by simp [zeroValue, Sem.run_bind, run_typeInfo w hft, Result.andThen, hzv, Pure.pure]
    obtain ⟨hlen, hlo, hread⟩ := hsrc
    obtain rfl : news = [] := List.eq_nil_of_length_eq_zero (by simpa using hlen)
    have hold : ∀ k, (Builtin.firstCells sz 0 (.slice a 0 0)).run C.P { w with drawn := k } = .ok ([] : List Value).toArray { w with drawn := k } := by
      intro k
      cases a <;> simp [Builtin.firstCells, loadCells, loadCellsFrom, Pure.pure, Sem.run]
    have hnew : ∀ k, (Builtin.firstCells sz 0 v2).run C.P { w with drawn := k } = .ok ([] : List Value).toArray { w with drawn := k } := fun k => hread _ (hs.drawn k)
    obtain ⟨A1, A2⟩ := run_append (ty := ty) hu hu2 hni' hsz' hf1 hfb hz1 hlo hold hnew hb hnm hby
    have hr := A1 (Nat.le_refl _) w (by cases a <;> rfl)
    have := run_builtin_of (P := C.P) (ρ := ac.eval) (b := .append) (xs := #[x, y]) (ts := #[T, T2]) (w := w) (d := dst) (ty := ty) (pos := pos) (af := af) (gd := gd) (n := .value (.slice a 0 0)) (w' := w) (by
      simp only [builtin, List.map_toArray, List.map_cons, List.map_nil, hf.ev hx, hf.ev hy]
      rw [Sem.run_bind, hr]; rfl)
    rw [this]
    exact kk _ _ w ⟨a, 0, rfl, rfl⟩ (Sat.lift (l := l) hs fun H h => rowz_nil h)
  · refine ⟨(OL_append0 ht he hz hx hy hm hsrc hT2 hni hb hnm hby).nd, fun dst ty pos af gd ac w hf hs K Q kk => ?_⟩
    refine (OL_append0 ht he hz hx hy hm hsrc hT2 hni hb hnm hby).out dst ty pos af gd ac w hf hs K Q ?_
    rintro v l' w' ⟨a', cap', rfl, rfl⟩ hs'
    exact kk _ _ w' ⟨a', cap', rfl, rfl⟩ (Sat.lift (l := row e sz a' m cap' news :: l) hs' fun H h => rowz_row h)
theorem OL_appendr {T e s1 s2 sz by_ : Nat} {d : TD} {z ze : List Value} {x y : Operand} {a : Option Addr} {n m cap i T2 : Nat} {cs news : List Value} {v2 : Value} {r : List HP} {i2 : TyI} (ht : look C.ti T = some ⟨.slice e, s1, s2, z⟩) (he : look C.ti e = some ⟨d, sz, by_, ze⟩) (hz : ze.length = sz)
    (hx : ev g x = some (.slice a n cap)) (hy : ev g y = some v2) (hi : pick1 l i = some (rowz e sz a n cap cs, r)) (hsrc : Src C l sz m v2 news) (hplain : plainL news = true)
    (hT2 : look C.ti T2 = some i2) (hni : ∀ k, i2.d ≠ .int k) (hb : (2 * (n + m) + 1024) * by_ ≤ 140737488355328) (hnm : n + m < 9223372036854775807) (hby : by_ ≠ 0) :
    OpL C g l (.call { callee := .builtin .append, args := #[x, y], argTypes := #[T, T2] }) (fun u l' => ∃ a' cap', u = .slice a' (n + m) cap' ∧ l' = rowz e sz a' (n + m) cap' (cs ++ news) :: r) := by
  refine ⟨(by intro c h; cases h), fun dst ty pos af gd ac w hf hs K Q kk => ?_⟩
  have hs' : Sat C.W (rowz e sz a n cap cs :: (r ++ C.fr)) w := hs.perm ((pick1_perm hi).append_right _)
  obtain ⟨x1, x2, ap, q1, q2, hp, hl⟩ := hs'.stars
  have hrow : ∀ w, Sat C.W ((row e sz a n cap cs :: r) ++ C.fr) w → Sat C.W (l ++ C.fr) w := fun w hw => by
    have h1 : Sat C.W (rowz e sz a n cap cs :: (r ++ C.fr)) w := hw.to fun H h => rowz_row h
    exact h1.perm ((pick1_perm hi).append_right _).symm
  rcases hp with ⟨rfl, rfl, rfl⟩ | hp
  · have hsr : Sat C.W (r ++ C.fr) w := ⟨hs'.os, hs'.tape, hs'.output, hl.mono q2⟩
    have hback : ∀ w, Sat C.W (r ++ C.fr) w → Sat C.W (l ++ C.fr) w := fun w hw => by
      have h1 : Sat C.W (rowz e sz a 0 0 [] :: (r ++ C.fr)) w := hw.to fun H h => rowz_nil h
      exact h1.perm ((pick1_perm hi).append_right _).symm
    refine (OL_appendz (l := r) ht he hz hx hy (hsrc.mono hback) hT2 hni hb hnm hby).out dst ty pos af gd ac w hf hsr K Q ?_
    rintro v l' w' ⟨a', cap', rfl, rfl⟩ hs2
    refine kk _ _ w' ⟨a', cap', by rw [Nat.zero_add], rfl⟩ ?_
    rw [Nat.zero_add, List.nil_append]
    exact hs2
  · have hsr : Sat C.W ((row e sz a n cap cs :: r) ++ C.fr) w := ⟨hs'.os, hs'.tape, hs'.output, x1, x2, ap, q1, q2, hp, hl⟩
    refine (OL_append (l := row e sz a n cap cs :: r) (i := 0) ht he hz hx hy rfl (hsrc.mono hrow) hplain hT2 hni hb hnm hby).out dst ty pos af gd ac w hf hsr K Q ?_
    rintro v l' w' ⟨a', cap', rfl, rfl⟩ hs2
    exact kk _ _ w' ⟨a', cap', rfl, rfl⟩ (Sat.lift (l := row e sz a' (n + m) cap' (cs ++ news) :: r) hs2 fun H h => rowz_row h)
theorem OL_makeN {T e s1 s2 by_ k : Nat} {d : TD} {z : List Value} {x y : Operand} {q q' : IntKind} {v : Value} (ht : look C.ti T = some ⟨.slice e, s1, s2, z⟩) (he : look C.ti e = some ⟨d, 1, by_, [v]⟩)
    (hx : ev g x = some (.int q k)) (hy : ev g y = some (.int q' k)) (h1 : (by_ : Int) * k ≤ 140737488355328) (h2 : (k : Int) ≤ 9223372036854775807) :
    OpL C g l (.makeSlice T x y) (fun u l' => ∃ b, u = .slice (some ⟨b, 0, none⟩) k k ∧ l' = blk b (List.replicate k v) e :: l) := by
  have h := OL_make (l := l) ht he hx hy (by omega) h1 h2
  simp only [Int.toNat_natCast] at h
  exact h
theorem Stars.pick {l kp r : List HP} {is : List Nat} (h : picks l is = some (kp, r)) {H : PH} (hl : Stars l H) : Stars kp H := (hl.perm (picks_perm h)).left
end ops
theorem Does.fr {P : Program} {f : FuncId} {args : List Value} {pre : List HP} {post : Value → List HP → Prop} (h : Does P f args pre post) (r : List HP) : Does P f args (r ++ pre) (fun v l => ∃ l1, post v l1 ∧ l = r ++ l1) :=
  ⟨h.1, fun W fr w hs => (h.2 W (r ++ fr) w (hs.perm ((List.perm_append_comm.append_right fr).trans (by rw [List.append_assoc])))).mono fun e w' ⟨v, l, he, hp, hs'⟩ =>
    ⟨v, r ++ l, he, ⟨l, hp, rfl⟩, hs'.perm (List.Perm.trans (by rw [List.append_assoc]) (List.perm_append_comm.append_right fr))⟩⟩
open Go.RowKit
variable {C : Ctx} {opl rest : List Oper} {Q : Post} {kp : List HP} {ks rx : List Nat} {i : Nat} {p : Plan} {g : Regs} {l : List HP} {ty : TypeId} {pos : String} {af : Array Edge} {gd : Option (Nat × Bool)} {d : Tmp} {t t' : TypeId} {x y : Operand} {m n : Int} {c : Operand} {c1 c2 : Code} {φ : Prop} [Decidable φ]
theorem B1  (hx : ev g x = some (.int .i64 m)) (hy : ev g y = some (.int .i64 n))  (hw : gw opl g gd = some true) (hN : Nat.blt d C.N = true) (k : JO C opl Q rest ((d, .int .i64 (m + n)) :: g) l) (h0 : -9223372036854775808 ≤ m + n := by omega) (h1 : m + n ≤ 9223372036854775807 := by omega) : JO C opl Q (⟨some d, .binOp .add t x y t', ty, pos, af, gd⟩ :: rest) g l := JO_val (OV_add hx hy h0 h1) hw hN k
theorem B2  (hx : ev g x = some (.int .i64 m)) (hy : ev g y = some (.int .i64 n))  (hw : gw opl g gd = some true) (hN : Nat.blt d C.N = true) (k : JO C opl Q rest ((d, .int .i64 (m - n)) :: g) l) (h0 : -9223372036854775808 ≤ m - n := by omega) (h1 : m - n ≤ 9223372036854775807 := by omega) : JO C opl Q (⟨some d, .binOp .sub t x y t', ty, pos, af, gd⟩ :: rest) g l := JO_val (OV_sub hx hy h0 h1) hw hN k
theorem B3  (hx : ev g x = some (.int .i64 m)) (hy : ev g y = some (.int .i64 n))  (hw : gw opl g gd = some true) (hN : Nat.blt d C.N = true) (k : JO C opl Q rest ((d, .int .i64 (m * n)) :: g) l) (h0 : -9223372036854775808 ≤ m * n := by omega) (h1 : m * n ≤ 9223372036854775807 := by omega) : JO C opl Q (⟨some d, .binOp .mul t x y t', ty, pos, af, gd⟩ :: rest) g l := JO_val (OV_mul hx hy h0 h1) hw hN k
theorem B4  (hx : ev g x = some (.int .i64 m)) (hy : ev g y = some (.int .i64 n))  (hw : gw opl g gd = some true) (hN : Nat.blt d C.N = true) (k : JO C opl Q rest ((d, .int .i64 (m / n)) :: g) l) (h0 : 0 ≤ m := by omega) (h1 : 0 < n := by omega) (h2 : m ≤ 9223372036854775807 := by omega) : JO C opl Q (⟨some d, .binOp .quo t x y t', ty, pos, af, gd⟩ :: rest) g l := JO_val (OV_quo hx hy h0 h1 h2) hw hN k
theorem B5  (hx : ev g x = some (.int .i64 m)) (hy : ev g y = some (.int .i64 n))  (hw : gw opl g gd = some true) (hN : Nat.blt d C.N = true) (k : JO C opl Q rest ((d, .int .i64 (m % n)) :: g) l) (h0 : 0 ≤ m := by omega) (h1 : 0 < n := by omega) : JO C opl Q (⟨some d, .binOp .rem t x y t', ty, pos, af, gd⟩ :: rest) g l := JO_val (OV_rem hx hy h0 h1) hw hN k
theorem B6 {q : IntKind} (hx : ev g x = some (.int q m)) (hy : ev g y = some (.int q n))  (hw : gw opl g gd = some true) (hN : Nat.blt d C.N = true) (k : JO C opl Q rest ((d, .int q (m % n)) :: g) l) (h0 : 0 ≤ m := by omega) (h1 : 0 < n := by omega) : JO C opl Q (⟨some d, .binOp .rem t x y t', ty, pos, af, gd⟩ :: rest) g l := JO_val (OV_remk hx hy h0 h1) hw hN k
theorem B7 {a b : Bool} {s1 s2 : Nat} {z : List Value} (hx : ev g x = some (.bool a)) (hy : ev g y = some (.bool b))  (ht : look C.ti t = some ⟨.bool, s1, s2, z⟩) (hw : gw opl g gd = some true) (hN : Nat.blt d C.N = true) (k : JO C opl Q rest ((d, .bool (a == b)) :: g) l) : JO C opl Q (⟨some d, .binOp .eql t x y t', ty, pos, af, gd⟩ :: rest) g l := JO_val (OV_eqbool ht hx hy) hw hN k
theorem B8 {a b : Bool} {s1 s2 : Nat} {z : List Value} (hx : ev g x = some (.bool a)) (hy : ev g y = some (.bool b))  (ht : look C.ti t = some ⟨.bool, s1, s2, z⟩) (hw : gw opl g gd = some true) (hN : Nat.blt d C.N = true) (k : JO C opl Q rest ((d, .bool (!(a == b))) :: g) l) : JO C opl Q (⟨some d, .binOp .neq t x y t', ty, pos, af, gd⟩ :: rest) g l := JO_val (OV_neqbool ht hx hy) hw hN k
theorem B9 {u v : Value} {b : Bool} {j : TyI} (hx : ev g x = some u) (hy : ev g y = some v)  (ht : look C.ti t = some j) (hu : fitNil j.d u = true) (h : nilEq u v = some b) (hw : gw opl g gd = some true) (hN : Nat.blt d C.N = true) (k : JO C opl Q rest ((d, .bool (b)) :: g) l) : JO C opl Q (⟨some d, .binOp .eql t x y t', ty, pos, af, gd⟩ :: rest) g l := JO_val (OV_eqnil ht hx hy hu h) hw hN k
theorem BA {u v : Value} {b : Bool} {j : TyI} (hx : ev g x = some u) (hy : ev g y = some v)  (ht : look C.ti t = some j) (hu : fitNil j.d u = true) (h : nilEq u v = some b) (hw : gw opl g gd = some true) (hN : Nat.blt d C.N = true) (k : JO C opl Q rest ((d, .bool (!b)) :: g) l) : JO C opl Q (⟨some d, .binOp .neq t x y t', ty, pos, af, gd⟩ :: rest) g l := JO_val (OV_neqnil ht hx hy hu h) hw hN k
theorem V1 {v : Value} {o : Op}  (h : pureOp C.ti g o = some v) (hw : gw opl g gd = some true) (hN : Nat.blt d C.N = true) (k : JO C opl Q rest ((d, v) :: g) l) : JO C opl Q (⟨some d, o, ty, pos, af, gd⟩ :: rest) g l := JO_v h hw hN k
theorem U1 {fs pl : List (Nat × Nat)} {ps : List (Nat × Value)} {s1 s2 : Nat} {z cs : List Value} {parts : Array (Nat × Operand)}  (ht : look C.ti t = some ⟨.struct fs, s1, s2, z⟩) (hpl : placesL C.ti fs = some pl) (hp : evP g parts.toList = some ps) (hf : fillL pl z ps = some cs) (hw : gw opl g gd = some true) (hN : Nat.blt d C.N = true) (k : JO C opl Q rest ((d, .agg cs.toArray) :: g) l) : JO C opl Q (⟨some d, .build t parts, ty, pos, af, gd⟩ :: rest) g l := JO_val (OV_build ht hpl hp hf) hw hN k
theorem M1  (h : ev g x = some (.bool (decide φ)))  (hw : gw opl g gd = some true) (hN : Nat.blt d C.N = true) (k : JO C opl Q rest ((d, .bool true) :: g) l) (e : φ := by first | omega | (simp; done) | fail) : JO C opl Q (⟨some d, .move x, ty, pos, af, gd⟩ :: rest) g l := JO_mt h e hw hN k
theorem M2  (h : ev g x = some (.bool (decide φ)))  (hw : gw opl g gd = some true) (hN : Nat.blt d C.N = true) (k : JO C opl Q rest ((d, .bool false) :: g) l) (e : ¬ φ := by first | omega | (simp; done) | fail) : JO C opl Q (⟨some d, .move x, ty, pos, af, gd⟩ :: rest) g l := JO_mf h e hw hN k
theorem M3  (h : ev g x = some (.bool (!decide φ)))  (hw : gw opl g gd = some true) (hN : Nat.blt d C.N = true) (k : JO C opl Q rest ((d, .bool true) :: g) l) (e : ¬ φ := by first | omega | (simp; done) | fail) : JO C opl Q (⟨some d, .move x, ty, pos, af, gd⟩ :: rest) g l := JO_nt h e hw hN k
theorem M4  (h : ev g x = some (.bool (!decide φ)))  (hw : gw opl g gd = some true) (hN : Nat.blt d C.N = true) (k : JO C opl Q rest ((d, .bool false) :: g) l) (e : φ := by first | omega | (simp; done) | fail) : JO C opl Q (⟨some d, .move x, ty, pos, af, gd⟩ :: rest) g l := JO_nf h e hw hN k
theorem M5  (h : ev g x = some (.bool (decide φ)))  (hw : gw opl g gd = some true) (hN : Nat.blt d C.N = true) (k1 : φ → JO C opl Q rest ((d, .bool true) :: g) l) (k2 : ¬ φ → JO C opl Q rest ((d, .bool false) :: g) l) : JO C opl Q (⟨some d, .move x, ty, pos, af, gd⟩ :: rest) g l := JO_mb h hw hN k1 k2
theorem M6  (h : ev g x = some (.bool (!decide φ)))  (hw : gw opl g gd = some true) (hN : Nat.blt d C.N = true) (k1 : ¬ φ → JO C opl Q rest ((d, .bool true) :: g) l) (k2 : φ → JO C opl Q rest ((d, .bool false) :: g) l) : JO C opl Q (⟨some d, .move x, ty, pos, af, gd⟩ :: rest) g l := JO_nb h hw hN k1 k2
theorem C1 {k' : IntKind} {j : TyI} {s1 s2 : Nat} {z : List Value} (hx : ev g x = some (.int k' n))  (h1 : look C.ti t = some j) (h2 : look C.ti t' = some ⟨.int .i64, s1, s2, z⟩) (hw : gw opl g gd = some true) (hN : Nat.blt d C.N = true) (k : JO C opl Q rest ((d, .int .i64 n) :: g) l) (h3 : -9223372036854775808 ≤ n := by omega) (h4 : n ≤ 9223372036854775807 := by omega) : JO C opl Q (⟨some d, .convert t t' x, ty, pos, af, gd⟩ :: rest) g l := JO_val (OV_conv h1 h2 hx h3 h4) hw hN k
theorem G1 {o : Op}  (hw : gw opl g gd = some false) (hN : Nat.blt d C.N = true) (k : JO C opl Q rest ((d, undef) :: g) l) : JO C opl Q (⟨some d, o, ty, pos, af, gd⟩ :: rest) g l := JO_skip hw hN k
theorem G2 {o : Op}  (hw : gw opl g gd = some false) (k : JO C opl Q rest g l) : JO C opl Q (⟨none, o, ty, pos, af, gd⟩ :: rest) g l := JO_skip0 hw k
theorem L1 {b o T : Nat} {cs : List Value} {v : Value} (hx : ev g x = some (ptr b o))  (ha : aggAt C.ti t = some false) (hw : gw opl g gd = some true) (hN : Nat.blt d C.N = true) (k : JO C opl Q rest ((d, v) :: g) l) (m : blk b cs T ∈ l := by repeat (first | exact .head _ | refine .tail _ ?_)) (hc : cs[o]? = some v := by rfl) : JO C opl Q (⟨some d, .load t x, ty, pos, af, gd⟩ :: rest) g l := JO_q (OQ_load hx ha m hc) hw hN k
theorem L2 {b o T n : Nat} {cs vs : List Value} (hx : ev g x = some (ptr b o))  (ha : aggAt C.ti t = some true) (hn : sizeAt C.ti t = some n) (hw : gw opl g gd = some true) (hN : Nat.blt d C.N = true) (k : JO C opl Q rest ((d, .agg vs.toArray) :: g) l) (m : blk b cs T ∈ l := by repeat (first | exact .head _ | refine .tail _ ?_)) (hc : takeL cs o n = some vs := by rfl) : JO C opl Q (⟨some d, .load t x, ty, pos, af, gd⟩ :: rest) g l := JO_q (OQ_loadA hx ha hn m hc) hw hN k
theorem S1 {b o T j n : Nat} {cs cs' vs : List Value} {v : Value} {r : List HP} (hx : ev g x = some (ptr b o)) (hy : ev g y = some v)  (hv : cellsL v = some vs) (hn : sizeAt C.ti t = some n) (hl : vs.length = n) (hp : plainL vs = true) (hw : gw opl g gd = some true) (k : Value → JO C opl Q rest g (blk b cs' T :: r)) (m : pick1 l j = some (blk b cs T, r) := by first | exact P0 | exact P1 | exact P2 | exact P3 | exact P4 | exact P5 | exact P6 | exact P7) (hc : putL cs o vs = some cs' := by rfl) : JO C opl Q (⟨none, .store t x y, ty, pos, af, gd⟩ :: rest) g l := JO_l0 (OL_store hx hy hv hn hl hp m hc) hw (by rintro v _ rfl; exact k v)
theorem N1 {v : Value} {cs : List Value} (hx : ev g x = some v)  (hc : cellsL v = some cs) (hw : gw opl g gd = some true) (hN : Nat.blt d C.N = true) (k : ∀ b, JO C opl Q rest ((d, ptr b 0) :: g) (blk b cs t :: l)) : JO C opl Q (⟨some d, .box t x, ty, pos, af, gd⟩ :: rest) g l := JO_l (OL_box hx hc) hw hN (by rintro _ _ ⟨b, rfl, rfl⟩; exact k b)
theorem N2 {j : TyI} {cs : List Value}  (ht : look C.ti t = some j) (hc : litL j.zero = some cs) (hw : gw opl g gd = some true) (hN : Nat.blt d C.N = true) (k : ∀ b, JO C opl Q rest ((d, ptr b 0) :: g) (blk b cs t :: l)) : JO C opl Q (⟨some d, .alloc t, ty, pos, af, gd⟩ :: rest) g l := JO_l (OL_alloc ht hc) hw hN (by rintro _ _ ⟨b, rfl, rfl⟩; exact k b)
theorem XB1  (hx : ev g x = some (.int .i64 m)) (hy : ev g y = some (.int .i64 n))  (hk : Nat.blt (kindAt ks i) 2 = true) (hw : gw opl g gd = some true) (hN : Nat.blt d C.N = true) (k : JX C opl Q kp ks rx ((d, .int .i64 (m + n)) :: g) l) (h0 : -9223372036854775808 ≤ m + n := by omega) (h1 : m + n ≤ 9223372036854775807 := by omega) : JXO C opl Q kp ks i ⟨some d, .binOp .add t x y t', ty, pos, af, gd⟩ rx g l := XO_val hk (OV_add hx hy h0 h1) hw hN k
theorem XB2  (hx : ev g x = some (.int .i64 m)) (hy : ev g y = some (.int .i64 n))  (hk : Nat.blt (kindAt ks i) 2 = true) (hw : gw opl g gd = some true) (hN : Nat.blt d C.N = true) (k : JX C opl Q kp ks rx ((d, .int .i64 (m - n)) :: g) l) (h0 : -9223372036854775808 ≤ m - n := by omega) (h1 : m - n ≤ 9223372036854775807 := by omega) : JXO C opl Q kp ks i ⟨some d, .binOp .sub t x y t', ty, pos, af, gd⟩ rx g l := XO_val hk (OV_sub hx hy h0 h1) hw hN k
theorem XB3  (hx : ev g x = some (.int .i64 m)) (hy : ev g y = some (.int .i64 n))  (hk : Nat.blt (kindAt ks i) 2 = true) (hw : gw opl g gd = some true) (hN : Nat.blt d C.N = true) (k : JX C opl Q kp ks rx ((d, .int .i64 (m * n)) :: g) l) (h0 : -9223372036854775808 ≤ m * n := by omega) (h1 : m * n ≤ 9223372036854775807 := by omega) : JXO C opl Q kp ks i ⟨some d, .binOp .mul t x y t', ty, pos, af, gd⟩ rx g l := XO_val hk (OV_mul hx hy h0 h1) hw hN k
theorem XB4  (hx : ev g x = some (.int .i64 m)) (hy : ev g y = some (.int .i64 n))  (hk : Nat.blt (kindAt ks i) 2 = true) (hw : gw opl g gd = some true) (hN : Nat.blt d C.N = true) (k : JX C opl Q kp ks rx ((d, .int .i64 (m / n)) :: g) l) (h0 : 0 ≤ m := by omega) (h1 : 0 < n := by omega) (h2 : m ≤ 9223372036854775807 := by omega) : JXO C opl Q kp ks i ⟨some d, .binOp .quo t x y t', ty, pos, af, gd⟩ rx g l := XO_val hk (OV_quo hx hy h0 h1 h2) hw hN k
theorem XB5  (hx : ev g x = some (.int .i64 m)) (hy : ev g y = some (.int .i64 n))  (hk : Nat.blt (kindAt ks i) 2 = true) (hw : gw opl g gd = some true) (hN : Nat.blt d C.N = true) (k : JX C opl Q kp ks rx ((d, .int .i64 (m % n)) :: g) l) (h0 : 0 ≤ m := by omega) (h1 : 0 < n := by omega) : JXO C opl Q kp ks i ⟨some d, .binOp .rem t x y t', ty, pos, af, gd⟩ rx g l := XO_val hk (OV_rem hx hy h0 h1) hw hN k
theorem XB6 {q : IntKind} (hx : ev g x = some (.int q m)) (hy : ev g y = some (.int q n))  (hk : Nat.blt (kindAt ks i) 2 = true) (hw : gw opl g gd = some true) (hN : Nat.blt d C.N = true) (k : JX C opl Q kp ks rx ((d, .int q (m % n)) :: g) l) (h0 : 0 ≤ m := by omega) (h1 : 0 < n := by omega) : JXO C opl Q kp ks i ⟨some d, .binOp .rem t x y t', ty, pos, af, gd⟩ rx g l := XO_val hk (OV_remk hx hy h0 h1) hw hN k
theorem XB7 {a b : Bool} {s1 s2 : Nat} {z : List Value} (hx : ev g x = some (.bool a)) (hy : ev g y = some (.bool b))  (hk : Nat.blt (kindAt ks i) 2 = true) (ht : look C.ti t = some ⟨.bool, s1, s2, z⟩) (hw : gw opl g gd = some true) (hN : Nat.blt d C.N = true) (k : JX C opl Q kp ks rx ((d, .bool (a == b)) :: g) l) : JXO C opl Q kp ks i ⟨some d, .binOp .eql t x y t', ty, pos, af, gd⟩ rx g l := XO_val hk (OV_eqbool ht hx hy) hw hN k
theorem XB8 {a b : Bool} {s1 s2 : Nat} {z : List Value} (hx : ev g x = some (.bool a)) (hy : ev g y = some (.bool b))  (hk : Nat.blt (kindAt ks i) 2 = true) (ht : look C.ti t = some ⟨.bool, s1, s2, z⟩) (hw : gw opl g gd = some true) (hN : Nat.blt d C.N = true) (k : JX C opl Q kp ks rx ((d, .bool (!(a == b))) :: g) l) : JXO C opl Q kp ks i ⟨some d, .binOp .neq t x y t', ty, pos, af, gd⟩ rx g l := XO_val hk (OV_neqbool ht hx hy) hw hN k
theorem XB9 {u v : Value} {b : Bool} {j : TyI} (hx : ev g x = some u) (hy : ev g y = some v)  (hk : Nat.blt (kindAt ks i) 2 = true) (ht : look C.ti t = some j) (hu : fitNil j.d u = true) (h : nilEq u v = some b) (hw : gw opl g gd = some true) (hN : Nat.blt d C.N = true) (k : JX C opl Q kp ks rx ((d, .bool (b)) :: g) l) : JXO C opl Q kp ks i ⟨some d, .binOp .eql t x y t', ty, pos, af, gd⟩ rx g l := XO_val hk (OV_eqnil ht hx hy hu h) hw hN k
theorem XBA {u v : Value} {b : Bool} {j : TyI} (hx : ev g x = some u) (hy : ev g y = some v)  (hk : Nat.blt (kindAt ks i) 2 = true) (ht : look C.ti t = some j) (hu : fitNil j.d u = true) (h : nilEq u v = some b) (hw : gw opl g gd = some true) (hN : Nat.blt d C.N = true) (k : JX C opl Q kp ks rx ((d, .bool (!b)) :: g) l) : JXO C opl Q kp ks i ⟨some d, .binOp .neq t x y t', ty, pos, af, gd⟩ rx g l := XO_val hk (OV_neqnil ht hx hy hu h) hw hN k
theorem XV1 {v : Value} {o : Op}  (hk : Nat.blt (kindAt ks i) 2 = true) (h : pureOp C.ti g o = some v) (hw : gw opl g gd = some true) (hN : Nat.blt d C.N = true) (k : JX C opl Q kp ks rx ((d, v) :: g) l) : JXO C opl Q kp ks i ⟨some d, o, ty, pos, af, gd⟩ rx g l := XO_v hk h hw hN k
theorem XU1 {fs pl : List (Nat × Nat)} {ps : List (Nat × Value)} {s1 s2 : Nat} {z cs : List Value} {parts : Array (Nat × Operand)}  (hk : Nat.blt (kindAt ks i) 2 = true) (ht : look C.ti t = some ⟨.struct fs, s1, s2, z⟩) (hpl : placesL C.ti fs = some pl) (hp : evP g parts.toList = some ps) (hf : fillL pl z ps = some cs) (hw : gw opl g gd = some true) (hN : Nat.blt d C.N = true) (k : JX C opl Q kp ks rx ((d, .agg cs.toArray) :: g) l) : JXO C opl Q kp ks i ⟨some d, .build t parts, ty, pos, af, gd⟩ rx g l := XO_val hk (OV_build ht hpl hp hf) hw hN k
theorem XM1  (h : ev g x = some (.bool (decide φ)))  (hk : Nat.blt (kindAt ks i) 2 = true) (hw : gw opl g gd = some true) (hN : Nat.blt d C.N = true) (k : JX C opl Q kp ks rx ((d, .bool true) :: g) l) (e : φ := by first | omega | (simp; done) | fail) : JXO C opl Q kp ks i ⟨some d, .move x, ty, pos, af, gd⟩ rx g l := XO_mt hk h e hw hN k
theorem XM2  (h : ev g x = some (.bool (decide φ)))  (hk : Nat.blt (kindAt ks i) 2 = true) (hw : gw opl g gd = some true) (hN : Nat.blt d C.N = true) (k : JX C opl Q kp ks rx ((d, .bool false) :: g) l) (e : ¬ φ := by first | omega | (simp; done) | fail) : JXO C opl Q kp ks i ⟨some d, .move x, ty, pos, af, gd⟩ rx g l := XO_mf hk h e hw hN k
theorem XM3  (h : ev g x = some (.bool (!decide φ)))  (hk : Nat.blt (kindAt ks i) 2 = true) (hw : gw opl g gd = some true) (hN : Nat.blt d C.N = true) (k : JX C opl Q kp ks rx ((d, .bool true) :: g) l) (e : ¬ φ := by first | omega | (simp; done) | fail) : JXO C opl Q kp ks i ⟨some d, .move x, ty, pos, af, gd⟩ rx g l := XO_nt hk h e hw hN k
theorem XM4  (h : ev g x = some (.bool (!decide φ)))  (hk : Nat.blt (kindAt ks i) 2 = true) (hw : gw opl g gd = some true) (hN : Nat.blt d C.N = true) (k : JX C opl Q kp ks rx ((d, .bool false) :: g) l) (e : φ := by first | omega | (simp; done) | fail) : JXO C opl Q kp ks i ⟨some d, .move x, ty, pos, af, gd⟩ rx g l := XO_nf hk h e hw hN k
theorem XM5  (h : ev g x = some (.bool (decide φ)))  (hk : Nat.blt (kindAt ks i) 2 = true) (hw : gw opl g gd = some true) (hN : Nat.blt d C.N = true) (k1 : φ → JX C opl Q kp ks rx ((d, .bool true) :: g) l) (k2 : ¬ φ → JX C opl Q kp ks rx ((d, .bool false) :: g) l) : JXO C opl Q kp ks i ⟨some d, .move x, ty, pos, af, gd⟩ rx g l := XO_mb hk h hw hN k1 k2
theorem XM6  (h : ev g x = some (.bool (!decide φ)))  (hk : Nat.blt (kindAt ks i) 2 = true) (hw : gw opl g gd = some true) (hN : Nat.blt d C.N = true) (k1 : ¬ φ → JX C opl Q kp ks rx ((d, .bool true) :: g) l) (k2 : φ → JX C opl Q kp ks rx ((d, .bool false) :: g) l) : JXO C opl Q kp ks i ⟨some d, .move x, ty, pos, af, gd⟩ rx g l := XO_nb hk h hw hN k1 k2
theorem XC1 {k' : IntKind} {j : TyI} {s1 s2 : Nat} {z : List Value} (hx : ev g x = some (.int k' n))  (hk : Nat.blt (kindAt ks i) 2 = true) (h1 : look C.ti t = some j) (h2 : look C.ti t' = some ⟨.int .i64, s1, s2, z⟩) (hw : gw opl g gd = some true) (hN : Nat.blt d C.N = true) (k : JX C opl Q kp ks rx ((d, .int .i64 n) :: g) l) (h3 : -9223372036854775808 ≤ n := by omega) (h4 : n ≤ 9223372036854775807 := by omega) : JXO C opl Q kp ks i ⟨some d, .convert t t' x, ty, pos, af, gd⟩ rx g l := XO_val hk (OV_conv h1 h2 hx h3 h4) hw hN k
theorem XG1 {o : Op}  (hk : Nat.blt (kindAt ks i) 2 = true) (hw : gw opl g gd = some false) (hN : Nat.blt d C.N = true) (k : JX C opl Q kp ks rx ((d, undef) :: g) l) : JXO C opl Q kp ks i ⟨some d, o, ty, pos, af, gd⟩ rx g l := XO_skip hk hw hN k
theorem XL1 {b o T : Nat} {cs : List Value} {v : Value} (hx : ev g x = some (ptr b o))  (hk : kindAt ks i = 1) (ha : aggAt C.ti t = some false) (hw : gw opl g gd = some true) (hN : Nat.blt d C.N = true) (k : JX C opl Q kp ks rx ((d, v) :: g) l) (m : blk b cs T ∈ l := by repeat (first | exact .head _ | refine .tail _ ?_)) (hc : cs[o]? = some v := by rfl) : JXO C opl Q kp ks i ⟨some d, .load t x, ty, pos, af, gd⟩ rx g l := XO_q hk (OQ_load hx ha m hc) hw hN k
theorem XL2 {b o T n : Nat} {cs vs : List Value} (hx : ev g x = some (ptr b o))  (hk : kindAt ks i = 1) (ha : aggAt C.ti t = some true) (hn : sizeAt C.ti t = some n) (hw : gw opl g gd = some true) (hN : Nat.blt d C.N = true) (k : JX C opl Q kp ks rx ((d, .agg vs.toArray) :: g) l) (m : blk b cs T ∈ l := by repeat (first | exact .head _ | refine .tail _ ?_)) (hc : takeL cs o n = some vs := by rfl) : JXO C opl Q kp ks i ⟨some d, .load t x, ty, pos, af, gd⟩ rx g l := XO_q hk (OQ_loadA hx ha hn m hc) hw hN k
theorem XL1k {b o T : Nat} {cs : List Value} {v : Value} (hx : ev g x = some (ptr b o))  (hk : kindAt ks i = 5) (ha : aggAt C.ti t = some false) (hw : gw opl g gd = some true) (hN : Nat.blt d C.N = true) (k : JX C opl Q kp ks rx ((d, v) :: g) l) (m : blk b cs T ∈ kp := by repeat (first | exact .head _ | refine .tail _ ?_)) (hc : cs[o]? = some v := by rfl) : JXO C opl Q kp ks i ⟨some d, .load t x, ty, pos, af, gd⟩ rx g l := XO_kept hk (OK_load hx ha m hc) hw hN k
theorem XL2k {b o T n : Nat} {cs vs : List Value} (hx : ev g x = some (ptr b o))  (hk : kindAt ks i = 5) (ha : aggAt C.ti t = some true) (hn : sizeAt C.ti t = some n) (hw : gw opl g gd = some true) (hN : Nat.blt d C.N = true) (k : JX C opl Q kp ks rx ((d, .agg vs.toArray) :: g) l) (m : blk b cs T ∈ kp := by repeat (first | exact .head _ | refine .tail _ ?_)) (hc : takeL cs o n = some vs := by rfl) : JXO C opl Q kp ks i ⟨some d, .load t x, ty, pos, af, gd⟩ rx g l := XO_kept hk (OK_loadA hx ha hn m hc) hw hN k
theorem XS1 {b o T j n : Nat} {cs cs' vs : List Value} {v : Value} {r : List HP} (hx : ev g x = some (ptr b o)) (hy : ev g y = some v)  (hk : kindAt ks i = 2) (hv : cellsL v = some vs) (hn : sizeAt C.ti t = some n) (hl : vs.length = n) (hp : plainL vs = true) (hw : gw opl g gd = some true) (k : Value → JX C opl Q [] ks rx g (blk b cs' T :: r)) (m : pick1 l j = some (blk b cs T, r) := by first | exact P0 | exact P1 | exact P2 | exact P3 | exact P4 | exact P5 | exact P6 | exact P7) (hc : putL cs o vs = some cs' := by rfl) : JXO C opl Q [] ks i ⟨none, .store t x y, ty, pos, af, gd⟩ rx g l := XO_l0 hk (OL_store hx hy hv hn hl hp m hc) hw (by rintro v _ rfl; exact k v)
theorem XN1 {v : Value} {cs : List Value} (hx : ev g x = some v)  (hk : kindAt ks i = 2) (hc : cellsL v = some cs) (hw : gw opl g gd = some true) (hN : Nat.blt d C.N = true) (k : ∀ b, JX C opl Q [] ks rx ((d, ptr b 0) :: g) (blk b cs t :: l)) : JXO C opl Q [] ks i ⟨some d, .box t x, ty, pos, af, gd⟩ rx g l := XO_l hk (OL_box hx hc) hw hN (by rintro _ _ ⟨b, rfl, rfl⟩; exact k b)
theorem XN2 {j : TyI} {cs : List Value}  (hk : kindAt ks i = 2) (ht : look C.ti t = some j) (hc : litL j.zero = some cs) (hw : gw opl g gd = some true) (hN : Nat.blt d C.N = true) (k : ∀ b, JX C opl Q [] ks rx ((d, ptr b 0) :: g) (blk b cs t :: l)) : JXO C opl Q [] ks i ⟨some d, .alloc t, ty, pos, af, gd⟩ rx g l := XO_l hk (OL_alloc ht hc) hw hN (by rintro _ _ ⟨b, rfl, rfl⟩; exact k b)
theorem FB1  (hx : ev g x = some (.int .i64 m)) (hy : ev g y = some (.int .i64 n))  (hw : gw opl g gd = some true) (hN : Nat.blt d C.N = true) (k : JF C opl Q kp ks p ((d, .int .i64 (m + n)) :: g) l) (h0 : -9223372036854775808 ≤ m + n := by omega) (h1 : m + n ≤ 9223372036854775807 := by omega) : JFQ C opl Q kp ks i ⟨some d, .binOp .add t x y t', ty, pos, af, gd⟩ p g l := FO_val (OV_add hx hy h0 h1) hw hN k
theorem FB2  (hx : ev g x = some (.int .i64 m)) (hy : ev g y = some (.int .i64 n))  (hw : gw opl g gd = some true) (hN : Nat.blt d C.N = true) (k : JF C opl Q kp ks p ((d, .int .i64 (m - n)) :: g) l) (h0 : -9223372036854775808 ≤ m - n := by omega) (h1 : m - n ≤ 9223372036854775807 := by omega) : JFQ C opl Q kp ks i ⟨some d, .binOp .sub t x y t', ty, pos, af, gd⟩ p g l := FO_val (OV_sub hx hy h0 h1) hw hN k
theorem FB3  (hx : ev g x = some (.int .i64 m)) (hy : ev g y = some (.int .i64 n))  (hw : gw opl g gd = some true) (hN : Nat.blt d C.N = true) (k : JF C opl Q kp ks p ((d, .int .i64 (m * n)) :: g) l) (h0 : -9223372036854775808 ≤ m * n := by omega) (h1 : m * n ≤ 9223372036854775807 := by omega) : JFQ C opl Q kp ks i ⟨some d, .binOp .mul t x y t', ty, pos, af, gd⟩ p g l := FO_val (OV_mul hx hy h0 h1) hw hN k
theorem FB4  (hx : ev g x = some (.int .i64 m)) (hy : ev g y = some (.int .i64 n))  (hw : gw opl g gd = some true) (hN : Nat.blt d C.N = true) (k : JF C opl Q kp ks p ((d, .int .i64 (m / n)) :: g) l) (h0 : 0 ≤ m := by omega) (h1 : 0 < n := by omega) (h2 : m ≤ 9223372036854775807 := by omega) : JFQ C opl Q kp ks i ⟨some d, .binOp .quo t x y t', ty, pos, af, gd⟩ p g l := FO_val (OV_quo hx hy h0 h1 h2) hw hN k
theorem FB5  (hx : ev g x = some (.int .i64 m)) (hy : ev g y = some (.int .i64 n))  (hw : gw opl g gd = some true) (hN : Nat.blt d C.N = true) (k : JF C opl Q kp ks p ((d, .int .i64 (m % n)) :: g) l) (h0 : 0 ≤ m := by omega) (h1 : 0 < n := by omega) : JFQ C opl Q kp ks i ⟨some d, .binOp .rem t x y t', ty, pos, af, gd⟩ p g l := FO_val (OV_rem hx hy h0 h1) hw hN k
theorem FB6 {q : IntKind} (hx : ev g x = some (.int q m)) (hy : ev g y = some (.int q n))  (hw : gw opl g gd = some true) (hN : Nat.blt d C.N = true) (k : JF C opl Q kp ks p ((d, .int q (m % n)) :: g) l) (h0 : 0 ≤ m := by omega) (h1 : 0 < n := by omega) : JFQ C opl Q kp ks i ⟨some d, .binOp .rem t x y t', ty, pos, af, gd⟩ p g l := FO_val (OV_remk hx hy h0 h1) hw hN k
theorem FB7 {a b : Bool} {s1 s2 : Nat} {z : List Value} (hx : ev g x = some (.bool a)) (hy : ev g y = some (.bool b))  (ht : look C.ti t = some ⟨.bool, s1, s2, z⟩) (hw : gw opl g gd = some true) (hN : Nat.blt d C.N = true) (k : JF C opl Q kp ks p ((d, .bool (a == b)) :: g) l) : JFQ C opl Q kp ks i ⟨some d, .binOp .eql t x y t', ty, pos, af, gd⟩ p g l := FO_val (OV_eqbool ht hx hy) hw hN k
theorem FB8 {a b : Bool} {s1 s2 : Nat} {z : List Value} (hx : ev g x = some (.bool a)) (hy : ev g y = some (.bool b))  (ht : look C.ti t = some ⟨.bool, s1, s2, z⟩) (hw : gw opl g gd = some true) (hN : Nat.blt d C.N = true) (k : JF C opl Q kp ks p ((d, .bool (!(a == b))) :: g) l) : JFQ C opl Q kp ks i ⟨some d, .binOp .neq t x y t', ty, pos, af, gd⟩ p g l := FO_val (OV_neqbool ht hx hy) hw hN k
theorem FB9 {u v : Value} {b : Bool} {j : TyI} (hx : ev g x = some u) (hy : ev g y = some v)  (ht : look C.ti t = some j) (hu : fitNil j.d u = true) (h : nilEq u v = some b) (hw : gw opl g gd = some true) (hN : Nat.blt d C.N = true) (k : JF C opl Q kp ks p ((d, .bool (b)) :: g) l) : JFQ C opl Q kp ks i ⟨some d, .binOp .eql t x y t', ty, pos, af, gd⟩ p g l := FO_val (OV_eqnil ht hx hy hu h) hw hN k
theorem FBA {u v : Value} {b : Bool} {j : TyI} (hx : ev g x = some u) (hy : ev g y = some v)  (ht : look C.ti t = some j) (hu : fitNil j.d u = true) (h : nilEq u v = some b) (hw : gw opl g gd = some true) (hN : Nat.blt d C.N = true) (k : JF C opl Q kp ks p ((d, .bool (!b)) :: g) l) : JFQ C opl Q kp ks i ⟨some d, .binOp .neq t x y t', ty, pos, af, gd⟩ p g l := FO_val (OV_neqnil ht hx hy hu h) hw hN k
theorem FV1 {v : Value} {o : Op}  (h : pureOp C.ti g o = some v) (hw : gw opl g gd = some true) (hN : Nat.blt d C.N = true) (k : JF C opl Q kp ks p ((d, v) :: g) l) : JFQ C opl Q kp ks i ⟨some d, o, ty, pos, af, gd⟩ p g l := FO_v h hw hN k
theorem FU1 {fs pl : List (Nat × Nat)} {ps : List (Nat × Value)} {s1 s2 : Nat} {z cs : List Value} {parts : Array (Nat × Operand)}  (ht : look C.ti t = some ⟨.struct fs, s1, s2, z⟩) (hpl : placesL C.ti fs = some pl) (hp : evP g parts.toList = some ps) (hf : fillL pl z ps = some cs) (hw : gw opl g gd = some true) (hN : Nat.blt d C.N = true) (k : JF C opl Q kp ks p ((d, .agg cs.toArray) :: g) l) : JFQ C opl Q kp ks i ⟨some d, .build t parts, ty, pos, af, gd⟩ p g l := FO_val (OV_build ht hpl hp hf) hw hN k
theorem FL1k {b o T : Nat} {cs : List Value} {v : Value} (hx : ev g x = some (ptr b o))  (hk : kindAt ks i = 5) (ha : aggAt C.ti t = some false) (hw : gw opl g gd = some true) (hN : Nat.blt d C.N = true) (k : JF C opl Q kp ks p ((d, v) :: g) l) (m : blk b cs T ∈ kp := by repeat (first | exact .head _ | refine .tail _ ?_)) (hc : cs[o]? = some v := by rfl) : JFQ C opl Q kp ks i ⟨some d, .load t x, ty, pos, af, gd⟩ p g l := FO_kept hk (OK_load hx ha m hc) hw hN k
theorem FL2k {b o T n : Nat} {cs vs : List Value} (hx : ev g x = some (ptr b o))  (hk : kindAt ks i = 5) (ha : aggAt C.ti t = some true) (hn : sizeAt C.ti t = some n) (hw : gw opl g gd = some true) (hN : Nat.blt d C.N = true) (k : JF C opl Q kp ks p ((d, .agg vs.toArray) :: g) l) (m : blk b cs T ∈ kp := by repeat (first | exact .head _ | refine .tail _ ?_)) (hc : takeL cs o n = some vs := by rfl) : JFQ C opl Q kp ks i ⟨some d, .load t x, ty, pos, af, gd⟩ p g l := FO_kept hk (OK_loadA hx ha hn m hc) hw hN k
theorem K1  (h : ev g c = some (.bool (decide φ)))  (k : J C c1 Q g l) (e : φ := by first | omega | (simp; done) | fail) : J C (.cond c c1 c2) Q g l := J_ct h e k
theorem K2  (h : ev g c = some (.bool (decide φ)))  (k : J C c2 Q g l) (e : ¬ φ := by first | omega | (simp; done) | fail) : J C (.cond c c1 c2) Q g l := J_cf h e k
theorem K3  (h : ev g c = some (.bool (!decide φ)))  (k : J C c1 Q g l) (e : ¬ φ := by first | omega | (simp; done) | fail) : J C (.cond c c1 c2) Q g l := J_nt h e k
theorem K4  (h : ev g c = some (.bool (!decide φ)))  (k : J C c2 Q g l) (e : φ := by first | omega | (simp; done) | fail) : J C (.cond c c1 c2) Q g l := J_nf h e k
theorem T1 (h : J C c1 Q g l) : At C (PThen C c1 Q .normal) g l := At_then_normal h
theorem T2 (h : At C (Q .ret) g l) : At C (PThen C c1 Q .ret) g l := At_then_ret h
theorem T3 {id : Nat} (h : At C (Q (.exit id)) g l) : At C (PThen C c1 Q (.exit id)) g l := At_then_exit h
theorem T4 {id : Nat} (h : At C (Q .ret) g l) : At C (PBlock id Q .ret) g l := At_block_ret h
theorem T5 {id : Nat} (h : At C (Q .normal) g l) : At C (PBlock id Q .normal) g l := At_block_normal h
theorem T6 {α : Type} {I : α → Prop} {G : α → Regs} {L : α → List HP} {μ : α → Nat} {x : α} {id : Nat} (h : At C (Q (.exit id)) g l) : At C (PRound C I G L μ x Q (.exit id)) g l := At_round_exit h
theorem T7 {α : Type} {I : α → Prop} {G : α → Regs} {L : α → List HP} {μ : α → Nat} {x : α} (h : At C (Q .ret) g l) : At C (PRound C I G L μ x Q .ret) g l := At_round_ret h
theorem T8 {α : Type} {I : α → Prop} {G : α → Regs} {L : α → List HP} {id : Nat} (h : At C (Q (.exit id)) g l) : At C (PMeet C I G L Q (.exit id)) g l := At_meet_exit h
theorem T9 {α : Type} {I : α → Prop} {G : α → Regs} {L : α → List HP} (h : At C (Q .ret) g l) : At C (PMeet C I G L Q .ret) g l := At_meet_ret h
theorem TA {m : Nat} (h : J C c1 (PRnd C c1 Q m) g l) : At C (PRnd C c1 Q (m + 1) .normal) g l := At_rnd h
theorem TB {m id : Nat} (h : At C (Q (.exit id)) g l) : At C (PRnd C c1 Q m (.exit id)) g l := At_rnd_exit h
theorem TC {m : Nat} (h : At C (Q .ret) g l) : At C (PRnd C c1 Q m .ret) g l := At_rnd_ret h
end Go.Sep
