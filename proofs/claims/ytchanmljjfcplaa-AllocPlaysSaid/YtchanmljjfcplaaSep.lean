/-
  Our own, over any program: a small separation logic over the model's worlds. 'Stars l H': the assertions of the list l hold of disjoint parts of the heap H.
-/
import Derived.Below
import Derived.TacticsIn
import Derived.OrdersIn
import Derived.KernelRfl
namespace Go.Sep

/-- A partial heap. -/
abbrev PH := Nat → Option Obj
/-- An assertion over a partial heap. -/
abbrev HP := PH → Prop
def Sub (h H : PH) : Prop := ∀ k o, h k = some o → H k = some o
theorem Sub.refl (h : PH) : Sub h h := fun _ _ e => e
theorem Sub.trans {a b c : PH} (h : Sub a b) (k : Sub b c) : Sub a c := fun i o e => k i o (h i o e)
def Apart (a b : PH) : Prop := ∀ k, a k = none ∨ b k = none
theorem Apart.symm {a b : PH} (h : Apart a b) : Apart b a := fun k => (h k).symm
theorem Apart.sub {a b a' b' : PH} (h : Apart a b) (ha : Sub a' a) (hb : Sub b' b) : Apart a' b' := fun k => by
  rcases h k with e | e
  · left; cases x : a' k with
    | none => rfl
    | some o => rw [ha k o x] at e; cases e
  · right; cases x : b' k with
    | none => rfl
    | some o => rw [hb k o x] at e; cases e

def Stars : List HP → PH → Prop
  | [], _ => True
  | p :: l, H => ∃ h1 h2 : PH, Apart h1 h2 ∧ Sub h1 H ∧ Sub h2 H ∧ p h1 ∧ Stars l h2

/-- Block b is just this object. -/
def pt (b : Nat) (o : Obj) : HP := fun h => h b = some o
/-- Several assertions as one. -/
def big (l : List HP) : HP := Stars l
/-- A fact that names no heap. -/
def pure' (φ : Prop) : HP := fun _ => φ

theorem Stars.mono {l : List HP} {H H' : PH} (h : Stars l H) (s : Sub H H') : Stars l H' := by
  cases l with
  | nil => trivial
  | cons p l => obtain ⟨h1, h2, ap, s1, s2, hp, hl⟩ := h; exact ⟨h1, h2, ap, s1.trans s, s2.trans s, hp, hl⟩

theorem Stars.tail {p : HP} {l : List HP} {H : PH} (h : Stars (p :: l) H) : Stars l H := by
  obtain ⟨h1, h2, _, _, s2, _, hl⟩ := h; exact hl.mono s2

/-- The union of two partial heaps, the first one ahead. -/
def un (a b : PH) : PH := fun k => match a k with | some o => some o | none => b k
theorem sub_un_left (a b : PH) : Sub a (un a b) := fun k o e => by simp [un, e]
theorem sub_un_right {a b : PH} (ap : Apart a b) : Sub b (un a b) := fun k o e => by
  rcases ap k with y | y
  · simp [un, y, e]
  · rw [e] at y; cases y
theorem un_sub {a b H : PH} (ha : Sub a H) (hb : Sub b H) : Sub (un a b) H := fun k o e => by
  cases x : a k with
  | none => simp [un, x] at e; exact hb k o e
  | some o' => simp [un, x] at e; subst e; exact ha k _ x
theorem apart_un {a b c : PH} (h1 : Apart a b) (h2 : Apart a c) : Apart a (un b c) := fun k => by
  rcases h1 k with e | e
  · exact .inl e
  · rcases h2 k with e' | e'
    · exact .inl e'
    · right; simp [un, e, e']

theorem Stars.swap {p q : HP} {l : List HP} {H : PH} (h : Stars (p :: q :: l) H) : Stars (q :: p :: l) H := by
  obtain ⟨h1, h2, ap, s1, s2, hp, k1, k2, ap', t1, t2, hq, hl⟩ := h
  exact ⟨k1, un h1 k2, apart_un (ap.sub (Sub.refl _) t1).symm ap', t1.trans s2, un_sub s1 (t2.trans s2), hq,
    h1, k2, ap.sub (Sub.refl _) t2, sub_un_left _ _, sub_un_right (ap.sub (Sub.refl _) t2), hp, hl⟩

theorem Stars.perm {l l' : List HP} (p : l.Perm l') : ∀ {H : PH}, Stars l H → Stars l' H := by
  induction p with
  | nil => exact fun h => h
  | cons x _ ih => rintro H ⟨h1, h2, ap, s1, s2, hp, hl⟩; exact ⟨h1, h2, ap, s1, s2, hp, ih hl⟩
  | swap x y l => exact fun h => h.swap
  | trans _ _ ih1 ih2 => exact fun h => ih2 (ih1 h)

theorem Stars.app {l l' : List HP} {H : PH} (h : Stars (l ++ l') H) : ∃ h1 h2 : PH, Apart h1 h2 ∧ Sub h1 H ∧ Sub h2 H ∧ Stars l h1 ∧ Stars l' h2 := by
  induction l generalizing H with
  | nil => exact ⟨fun _ => none, H, fun _ => .inl rfl, (fun _ _ e => by cases e), Sub.refl _, trivial, h⟩
  | cons p l ih =>
    obtain ⟨h1, h2, ap, s1, s2, hp, hl⟩ := h
    obtain ⟨k1, k2, ap', t1, t2, hl1, hl2⟩ := ih hl
    exact ⟨un h1 k1, k2, (apart_un (ap.sub (Sub.refl _) t2).symm ap'.symm).symm, un_sub s1 (t1.trans s2), t2.trans s2,
      ⟨h1, k1, ap.sub (Sub.refl _) t1, sub_un_left _ _, sub_un_right (ap.sub (Sub.refl _) t1), hp, hl1⟩, hl2⟩
theorem Stars.unapp {l l' : List HP} {H h1 h2 : PH} (ap : Apart h1 h2) (s1 : Sub h1 H) (s2 : Sub h2 H) (a : Stars l h1) (b : Stars l' h2) : Stars (l ++ l') H := by
  induction l generalizing H h1 h2 with
  | nil => exact b.mono s2
  | cons p l ih =>
    obtain ⟨k1, k2, ap', t1, t2, hp, hl⟩ := a
    exact ⟨k1, un k2 h2, apart_un ap' (ap.sub t1 (Sub.refl _)), t1.trans s1, un_sub (t2.trans s1) s2, hp,
      ih (ap.sub t2 (Sub.refl _)) (sub_un_left _ _) (sub_un_right (ap.sub t2 (Sub.refl _))) hl b⟩
theorem Stars.left {l l' : List HP} {H : PH} (h : Stars (l ++ l') H) : Stars l H := by
  obtain ⟨h1, h2, _, s1, _, a, _⟩ := h.app; exact a.mono s1
theorem Stars.right {l l' : List HP} {H : PH} (h : Stars (l ++ l') H) : Stars l' H := by
  obtain ⟨h1, h2, _, _, s2, _, b⟩ := h.app; exact b.mono s2
theorem Stars.open {ps l : List HP} {H : PH} (h : Stars (big ps :: l) H) : Stars (ps ++ l) H := by
  obtain ⟨h1, h2, ap, s1, s2, hp, hl⟩ := h; exact Stars.unapp ap s1 s2 hp hl
theorem Stars.shut {ps l : List HP} {H : PH} (h : Stars (ps ++ l) H) : Stars (big ps :: l) H := by
  obtain ⟨h1, h2, ap, s1, s2, hp, hl⟩ := h.app; exact ⟨h1, h2, ap, s1, s2, hp, hl⟩
/-- One assertion, weakened where it stands. -/
theorem Stars.weak {p q : HP} {l : List HP} {H : PH} (h : Stars (p :: l) H) (k : ∀ h, p h → q h) : Stars (q :: l) H := by
  obtain ⟨h1, h2, ap, s1, s2, hp, hl⟩ := h; exact ⟨h1, h2, ap, s1, s2, k _ hp, hl⟩

theorem Stars.get {b : Nat} {o : Obj} {l : List HP} {H : PH} (h : Stars (pt b o :: l) H) : H b = some o := by
  obtain ⟨h1, _, _, s1, _, hp, _⟩ := h; exact s1 _ _ hp
theorem Stars.mem {p : HP} {l : List HP} {H : PH} (h : Stars l H) (m : p ∈ l) : ∃ h1, Sub h1 H ∧ p h1 := by
  induction l generalizing H with
  | nil => cases m
  | cons q l ih =>
    rcases List.mem_cons.1 m with rfl | m
    · obtain ⟨h1, _, _, s1, _, hp, _⟩ := h; exact ⟨h1, s1, hp⟩
    · obtain ⟨h1, s1, hp⟩ := ih h.tail m; exact ⟨h1, s1, hp⟩
theorem Stars.at {b : Nat} {o : Obj} {l : List HP} {H : PH} (h : Stars l H) (m : pt b o ∈ l) : H b = some o := by
  obtain ⟨h1, s1, hp⟩ := h.mem m; exact s1 _ _ hp

/-- A heap with one block another one. -/
def upd (H : PH) (b : Nat) (o : Obj) : PH := fun k => if k = b then some o else H k
theorem Stars.set {b : Nat} {o : Obj} {l : List HP} {H : PH} (h : Stars (pt b o :: l) H) (o' : Obj) : Stars (pt b o' :: l) (upd H b o') := by
  obtain ⟨h1, h2, ap, s1, s2, hp, hl⟩ := h
  have hn : h2 b = none := by
    rcases ap b with e | e
    · rw [show h1 b = some o from hp] at e; cases e
    · exact e
  refine ⟨fun k => if k = b then some o' else none, h2, ?_, ?_, ?_, by simp [pt], hl⟩
  · intro k
    by_cases e : k = b
    · subst e; exact .inr hn
    · left; simp [e]
  · intro k x e
    by_cases y : k = b
    · subst y; simpa [upd] using e
    · simp [y] at e
  · intro k x e
    by_cases y : k = b
    · subst y; rw [hn] at e; cases e
    · simp [upd, y]; exact s2 k x e
theorem Stars.new {b : Nat} {l : List HP} {H : PH} (h : Stars l H) (hb : H b = none) (o : Obj) : Stars (pt b o :: l) (upd H b o) := by
  refine ⟨fun k => if k = b then some o else none, H, ?_, ?_, ?_, by simp [pt], h⟩
  · intro k
    by_cases e : k = b
    · subst e; exact .inr hb
    · left; simp [e]
  · intro k x e
    by_cases y : k = b
    · subst y; simpa [upd] using e
    · simp [y] at e
  · intro k x e
    by_cases y : k = b
    · subst y; rw [hb] at e; cases e
    · simp [upd, y]; exact e

/-- The blocks of a world's heap below its size, as they were. -/
def Low (W : World) : HP := fun h => ∀ b, b < W.heap.size → h b = W.heap[b]?
theorem Low.self (W : World) : Low W (fun k => W.heap[k]?) := fun _ _ => rfl
theorem Stars.low {W : World} {l : List HP} {H : PH} (h : Stars l H) (m : Low W ∈ l) {b : Nat} (hb : b < W.heap.size) : H b = W.heap[b]? := by
  obtain ⟨h1, s1, hp⟩ := h.mem m
  have := hp b hb
  rw [Array.getElem?_eq_getElem hb] at this ⊢
  exact s1 _ _ this

/-! ### Taking some of a list out -/
/-- The i-th, and the others. -/
def pick1 {α : Type} : List α → Nat → Option (α × List α)
  | [], _ => none
  | x :: l, 0 => some (x, l)
  | x :: l, i + 1 => match pick1 l i with
    | some (y, r) => some (y, x :: r)
    | none => none
theorem pick1_perm {α : Type} {l : List α} {i : Nat} {x : α} {r : List α} (h : pick1 l i = some (x, r)) : l.Perm (x :: r) := by
  induction l generalizing i r with
  | nil => simp [pick1] at h
  | cons y l ih =>
    cases i with
    | zero => simp [pick1] at h; obtain ⟨rfl, rfl⟩ := h; exact List.Perm.refl _
    | succ i =>
      simp only [pick1] at h
      cases e : pick1 l i with
      | none => simp [e] at h
      | some p =>
        obtain ⟨z, r'⟩ := p
        simp [e] at h
        obtain ⟨rfl, rfl⟩ := h
        exact ((ih e).cons y).trans (List.Perm.swap _ _ _)
/-- Those of the places told, one behind the other (each place counts in what is left), and the others. -/
def picks {α : Type} : List α → List Nat → Option (List α × List α)
  | l, [] => some ([], l)
  | l, i :: is => match pick1 l i with
    | some (x, r) => match picks r is with
      | some (xs, r') => some (x :: xs, r')
      | none => none
    | none => none
theorem picks_perm {α : Type} {is : List Nat} : ∀ {l xs r : List α}, picks l is = some (xs, r) → l.Perm (xs ++ r) := by
  induction is with
  | nil => intro l xs r h; simp [picks] at h; obtain ⟨rfl, rfl⟩ := h; exact List.Perm.refl _
  | cons i is ih =>
    intro l xs r h
    simp only [picks] at h
    cases e : pick1 l i with
    | none => simp [e] at h
    | some p =>
      obtain ⟨x, r1⟩ := p
      simp only [e] at h
      cases e2 : picks r1 is with
      | none => simp [e2] at h
      | some q =>
        obtain ⟨xs', r'⟩ := q
        simp [e2] at h
        obtain ⟨rfl, rfl⟩ := h
        exact (pick1_perm e).trans ((ih e2).cons x)

/-! ### Worlds -/
def hp (w : World) : PH := fun k => w.heap[k]?
structure Sat (W : World) (l : List HP) (w : World) : Prop where
  os : w.os = W.os
  tape : w.tape = W.tape
  output : w.output = W.output
  stars : Stars l (hp w)

theorem Sat.perm {W w : World} {l l' : List HP} (h : Sat W l w) (p : l.Perm l') : Sat W l' w := ⟨h.os, h.tape, h.output, h.stars.perm p⟩
theorem Sat.to {W w : World} {l l' : List HP} (h : Sat W l w) (k : ∀ H, Stars l H → Stars l' H) : Sat W l' w := ⟨h.os, h.tape, h.output, k _ h.stars⟩
theorem Sat.drew {W w : World} {l : List HP} (h : Sat W l w) : Sat W l w.drew := ⟨h.os, h.tape, h.output, h.stars⟩
theorem Sat.drawn {W w : World} {l : List HP} (h : Sat W l w) (n : Nat) : Sat W l { w with drawn := n } := ⟨h.os, h.tape, h.output, h.stars⟩
theorem hp_alloc (w : World) (o : Obj) : hp (w.alloc o) = upd (hp w) w.heap.size o := by
  funext k
  show (w.heap.push o)[k]? = _
  rw [Array.getElem?_push]
  simp [upd, hp]
theorem hp_new (w : World) : hp w w.heap.size = none := by simp [hp]
theorem Sat.alloc {W w : World} {l : List HP} (h : Sat W l w) (o : Obj) : Sat W (pt w.heap.size o :: l) (w.alloc o) :=
  ⟨h.os, h.tape, h.output, by rw [hp_alloc]; exact h.stars.new (hp_new w) o⟩
theorem hp_setCell {w : World} {b off : Nat} {cs : Array Value} {t : TypeId} {f : Nat × Nat} (hb : w.heap[b]? = some (.cells cs t f)) (v : Value) :
    hp (w.setCell ⟨b, off, none⟩ v) = upd (hp w) b (.cells (cs.setIfInBounds off v) t f) := by
  funext k
  show (w.heap.modify b _)[k]? = _
  rw [Array.getElem?_modify]
  by_cases e : b = k
  · subst e; simp [upd, hb]
  · have e' : ¬ k = b := fun h => e h.symm
    simp [upd, hp, e, e']
theorem Sat.setCell {W w : World} {l : List HP} {b off : Nat} {cs : Array Value} {t : TypeId} {f : Nat × Nat} (h : Sat W (pt b (.cells cs t f) :: l) w) (v : Value) :
    Sat W (pt b (.cells (cs.setIfInBounds off v) t f) :: l) (w.setCell ⟨b, off, none⟩ v) :=
  ⟨h.os, h.tape, h.output, by rw [hp_setCell (h.stars.get) v]; exact h.stars.set _⟩
theorem Sat.setObj {W w : World} {l : List HP} {b : Nat} {o : Obj} (h : Sat W (pt b o :: l) w) (o' : Obj) :
    Sat W (pt b o' :: l) { w with heap := w.heap.setIfInBounds b o' } := by
  refine ⟨h.os, h.tape, h.output, ?_⟩
  have hb : w.heap[b]? = some o := h.stars.get
  have : hp { w with heap := w.heap.setIfInBounds b o' } = upd (hp w) b o' := by
    funext k
    show (w.heap.setIfInBounds b o')[k]? = _
    by_cases e : b = k
    · subst e
      have hlt := (Array.getElem?_eq_some_iff.1 hb).1
      simp [upd, hlt]
    · have e' : ¬ k = b := fun h => e h.symm
      simp [upd, hp, e', Array.getElem?_setIfInBounds_ne e]
  rw [this]; exact h.stars.set _
theorem Sat.at {W w : World} {l : List HP} {b : Nat} {o : Obj} (h : Sat W l w) (m : pt b o ∈ l) : w.heap[b]? = some o := h.stars.at m
theorem Sat.low {W W' w : World} {l : List HP} (h : Sat W l w) (m : Low W' ∈ l) {b : Nat} (hb : b < W'.heap.size) : w.heap[b]? = W'.heap[b]? := h.stars.low m hb
/-- What the row of a law asks at its end. -/
theorem Sat.below {W w : World} {l : List HP} (h : Sat W l w) (m : Low W ∈ l) : RowKit.Below W.heap.size W w := by
  refine ⟨h.os, h.tape, h.output, ?_, fun k hk => h.low m hk⟩
  rcases Nat.lt_or_ge w.heap.size W.heap.size with hlt | hge
  · have := h.low m hlt
    rw [Array.getElem?_eq_getElem hlt] at this
    simp at this
  · exact hge
theorem Sat.start (W : World) : Sat W [Low W] W :=
  ⟨rfl, rfl, rfl, fun k => W.heap[k]?, fun _ => none, fun _ => .inr rfl, Sub.refl _, (fun _ _ e => by cases e), Low.self W, trivial⟩

end Go.Sep
