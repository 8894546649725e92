/-
  Our own, over any program: registers as a list, a table of types, and what the operations come to that leave the memory alone.
-/
import Derived.Test.YtchanmljjfcplaaSep
import Derived.Laws.Entries
import Derived.Laws.Rows
namespace Go.Sep
open Go.RowKit

/-- The first entry of a number. -/
def look {α : Type} : List (Nat × α) → Nat → Option α
  | [], _ => none
  | (k, v) :: l, t => bif Nat.beq k t then some v else look l t

/-! ### The table of types -/
inductive TD where
  | bool | int (k : IntKind) | ptr (e : Nat) | slice (e : Nat) | array (n e : Nat) | struct (fs : List (Nat × Nat)) | func | iface (n : Nat) | map (k e : Nat) | other
def tdOf : TypeDesc → TD
  | .bool => .bool
  | .int k => .int k
  | .pointer e => .ptr e
  | .slice e => .slice e
  | .array n e => .array n e
  | .struct fs => .struct (fs.toList.map fun f => (f.offset, f.type))
  | .func _ _ _ => .func
  | .interface ms => .iface ms.size
  | .map k e => .map k e
  | _ => .other
structure TyI where
  d : TD
  size : Nat
  bytes : Nat
  zero : List Value
def tyView (P : Program) (t : Nat) : Option TyI :=
  match P.info? t, P.underlying t with
  | some i, some d => i.zero.map fun z => { d := tdOf d, size := i.size, bytes := i.bytes, zero := z.cells.toList }
  | _, _ => none
abbrev TIs := List (Nat × TyI)
def TIok (P : Program) : TIs → Prop
  | [] => True
  | (t, i) :: r => tyView P t = some i ∧ TIok P r
theorem TIok.look {P : Program} {ti : TIs} {t : Nat} {i : TyI} (h : TIok P ti) (e : look ti t = some i) : tyView P t = some i := by
  induction ti with
  | nil => cases e
  | cons p r ih =>
    obtain ⟨k, v⟩ := p
    simp only [Sep.look] at e
    cases b : Nat.beq k t with
    | true =>
      simp only [b, cond_true] at e
      have := Nat.eq_of_beq_eq_true b
      subst this
      injection e with e
      exact e ▸ h.1
    | false => simp only [b, cond_false] at e; exact ih h.2 e

/-- What a row of the table says, taken apart. -/
theorem tyView_parts {P : Program} {t : Nat} {i : TyI} (h : tyView P t = some i) :
    ∃ (f : TypeInfo) (d : TypeDesc) (z : Value), P.info? t = some f ∧ P.underlying t = some d ∧ f.zero = some z ∧ tdOf d = i.d ∧ f.size = i.size ∧ f.bytes = i.bytes ∧ z.cells.toList = i.zero := by
  unfold tyView at h
  split at h
  · rename_i f d hf hd
    obtain ⟨z, hz, e⟩ := Option.map_eq_some_iff.1 h
    subst e
    exact ⟨f, d, z, hf, hd, hz, rfl, rfl, rfl, rfl⟩
  · cases h

def TD.isAgg : TD → Bool
  | .struct _ => true
  | .array _ _ => true
  | _ => false

section runs
variable {P : Program} {t : Nat} {i : TyI} (w : World)
theorem run_typeInfo {f : TypeInfo} (h : P.info? t = some f) : (typeInfo t).run P w = .ok f w := by
  simp [typeInfo, program, Bind.bind, Pure.pure, Sem.bind, Sem.run, h]
theorem run_sizeOf (h : tyView P t = some i) : (sizeOf t).run P w = .ok i.size w := by
  obtain ⟨f, d, z, hf, hd, hz, e1, e2, e3, e4⟩ := tyView_parts h
  simp [sizeOf, Sem.run_bind, run_typeInfo w hf, Result.andThen, e2, Pure.pure]
theorem run_isAgg (h : tyView P t = some i) : (isAgg t).run P w = .ok i.d.isAgg w := by
  obtain ⟨f, d, z, hf, hd, hz, e1, e2, e3, e4⟩ := tyView_parts h
  simp only [isAgg, Sem.run_bind, run_underlying hd w, Result.andThen]
  cases d <;> simp [Pure.pure, Sem.run, ← e1, tdOf, TD.isAgg]
theorem run_zero (h : tyView P t = some i) : ∃ z : Value, (zeroValue t).run P w = .ok z w ∧ z.cells.toList = i.zero := by
  obtain ⟨f, d, z, hf, hd, hz, e1, e2, e3, e4⟩ := tyView_parts h
  refine ⟨z, ?_, e4⟩
  simp [zeroValue, Sem.run_bind, run_typeInfo w hf, Result.andThen, hz, Pure.pure, Sem.run]
theorem run_bytes (h : tyView P t = some i) : ∃ f, (typeInfo t).run P w = .ok f w ∧ f.bytes = i.bytes := by
  obtain ⟨f, d, z, hf, hd, hz, e1, e2, e3, e4⟩ := tyView_parts h
  exact ⟨f, run_typeInfo w hf, e3⟩
theorem und_slice {e : Nat} (h : tyView P t = some i) (hd : i.d = .slice e) : P.underlying t = some (.slice e) := by
  obtain ⟨f, d, z, hf, hu, hz, e1, e2, e3, e4⟩ := tyView_parts h
  rw [hd] at e1
  cases d <;> simp [tdOf] at e1
  subst e1; exact hu
theorem und_array {n e : Nat} (h : tyView P t = some i) (hd : i.d = .array n e) : P.underlying t = some (.array n e) := by
  obtain ⟨f, d, z, hf, hu, hz, e1, e2, e3, e4⟩ := tyView_parts h
  rw [hd] at e1
  cases d <;> simp [tdOf] at e1
  obtain ⟨rfl, rfl⟩ := e1; exact hu
theorem und_struct {fs : List (Nat × Nat)} (h : tyView P t = some i) (hd : i.d = .struct fs) : ∃ gs : Array Field, P.underlying t = some (.struct gs) ∧ gs.toList.map (fun f => (f.offset, f.type)) = fs := by
  obtain ⟨f, d, z, hf, hu, hz, e1, e2, e3, e4⟩ := tyView_parts h
  rw [hd] at e1
  cases d <;> simp [tdOf] at e1
  exact ⟨_, hu, e1⟩
theorem und_int {k : IntKind} (h : tyView P t = some i) (hd : i.d = .int k) : P.underlying t = some (.int k) := by
  obtain ⟨f, d, z, hf, hu, hz, e1, e2, e3, e4⟩ := tyView_parts h
  rw [hd] at e1
  cases d <;> simp [tdOf] at e1
  subst e1; exact hu
theorem und_bool (h : tyView P t = some i) (hd : i.d = .bool) : P.underlying t = some .bool := by
  obtain ⟨f, d, z, hf, hu, hz, e1, e2, e3, e4⟩ := tyView_parts h
  rw [hd] at e1
  cases d <;> simp [tdOf] at e1
  exact hu
theorem und_ptr {e : Nat} (h : tyView P t = some i) (hd : i.d = .ptr e) : P.underlying t = some (.pointer e) := by
  obtain ⟨f, d, z, hf, hu, hz, e1, e2, e3, e4⟩ := tyView_parts h
  rw [hd] at e1
  cases d <;> simp [tdOf] at e1
  subst e1; exact hu
theorem und_func (h : tyView P t = some i) (hd : i.d = .func) : ∃ a b c, P.underlying t = some (.func a b c) := by
  obtain ⟨f, d, z, hf, hu, hz, e1, e2, e3, e4⟩ := tyView_parts h
  rw [hd] at e1
  cases d <;> simp [tdOf] at e1
  exact ⟨_, _, _, hu⟩
end runs

/-! ### The context and the registers -/
structure Ctx where
  P : Program
  ti : TIs
  ok : TIok P ti
  r : Option Nat
  N : Nat
  D : List Deferred
  W : World
  fr : List HP
/-- Every function, any depth, the round that is on. -/
def FR (r : Option Nat) : Fence := { fn := fun _ => True, depth := none, alive := false, round := r }
theorem FR_none : FR none = Fence.wide := rfl

abbrev Regs := List (Nat × Value)
def Fits (C : Ctx) (g : Regs) (a : Act) : Prop := a.defers = C.D ∧ a.tmps.size = C.N ∧ ∀ t v, look g t = some v → a.tmps.getD t undef = v

theorem Fits.put {C : Ctx} {g : Regs} {a : Act} {d : Nat} {v : Value} (h : Fits C g a) (hd : Nat.blt d C.N = true) : Fits C ((d, v) :: g) (a.put (some d) v) := by
  obtain ⟨h1, h2, h3⟩ := h
  refine ⟨h1, by simp [Act.put, h2], fun t u e => ?_⟩
  have hlt : d < a.tmps.size := by rw [h2]; exact (Nat.blt_eq ▸ hd)
  simp only [look] at e
  cases b : Nat.beq d t with
  | true =>
    simp only [b, cond_true] at e
    have := Nat.eq_of_beq_eq_true b
    subst this
    injection e with e
    subst e
    simp [Act.put, hlt]
  | false =>
    simp only [b, cond_false] at e
    have hne : d ≠ t := fun x => by subst x; simp at b
    have := h3 t u e
    simpa [Act.put, Array.getElem?_setIfInBounds_ne hne] using this

def ev (g : Regs) : Operand → Option Value
  | .tmp t => look g t
  | .const v => some v
  | .global n => some (.pointer (some ⟨n, 0, none⟩))
  | .func f => some (.func (.func f) #[] #[])
theorem Fits.ev {C : Ctx} {g : Regs} {a : Act} {x : Operand} {v : Value} (h : Fits C g a) (e : ev g x = some v) : a.eval x = v := by
  cases x with
  | tmp t => exact h.2.2 t v e
  | const u => simp [Sep.ev] at e; subst e; rfl
  | global n => simp [Sep.ev] at e; subst e; rfl
  | func f => simp [Sep.ev] at e; subst e; rfl
def evs (g : Regs) : List Operand → Option (List Value)
  | [] => some []
  | x :: xs => match ev g x, evs g xs with
    | some v, some vs => some (v :: vs)
    | _, _ => none
theorem Fits.evs {C : Ctx} {g : Regs} {a : Act} (h : Fits C g a) : ∀ {xs : List Operand} {vs : List Value}, evs g xs = some vs → xs.map a.eval = vs := by
  intro xs
  induction xs with
  | nil => intro vs e; simp [Sep.evs] at e; subst e; rfl
  | cons x xs ih =>
    intro vs e
    simp only [Sep.evs] at e
    split at e
    · rename_i v us h1 h2
      injection e with e
      subst e
      simp [h.ev h1, ih h2]
    · cases e

/-- The registers of the second list are among those of the first. -/
def SubG : Regs → Regs → Prop
  | [], _ => True
  | (t, v) :: r, g => look g t = some v ∧ SubG r g
theorem SubG.look {g' g : Regs} (h : SubG g' g) {t : Nat} {v : Value} (e : look g' t = some v) : look g t = some v := by
  induction g' with
  | nil => cases e
  | cons p r ih =>
    obtain ⟨k, u⟩ := p
    simp only [Sep.look] at e
    cases b : Nat.beq k t with
    | true =>
      simp only [b, cond_true] at e
      have := Nat.eq_of_beq_eq_true b
      subst this
      exact h.1.trans e
    | false => simp only [b, cond_false] at e; exact ih h.2 e
theorem Fits.sub {C : Ctx} {g g' : Regs} {a : Act} (h : Fits C g a) (s : SubG g' g) : Fits C g' a := ⟨h.1, h.2.1, fun t v e => h.2.2 t v (s.look e)⟩

/-! ### Operations that leave the memory alone -/
def fieldOff (ti : TIs) (s f : Nat) : Option Nat :=
  match look ti s with
  | some ⟨.struct fs, _, _, _⟩ => match fs[f]? with
    | some (off, ft) => match look ti ft with
      | some ⟨_, sz, _, _⟩ => bif Nat.beq sz 0 then none else some off
      | none => none
    | none => none
  | _ => none
def sizeAt (ti : TIs) (t : Nat) : Option Nat :=
  match look ti t with
  | some ⟨_, sz, _, _⟩ => some sz
  | none => none
def aggAt (ti : TIs) (t : Nat) : Option Bool :=
  match look ti t with
  | some ⟨d, _, _, _⟩ => some d.isAgg
  | none => none
/-- n cells from a place on. -/
def takeL : List Value → Nat → Nat → Option (List Value)
  | _, _, 0 => some []
  | cs, o, n + 1 => match cs[o]?, takeL cs (o + 1) n with
    | some v, some vs => some (v :: vs)
    | _, _ => none

def binV (op : BinOp) (x y : Value) : Option Value :=
  match op, x, y with
  | .add, .int .i64 a, .int .i64 b => some (.int .i64 (IntKind.wrap .i64 (a + b)))
  | .sub, .int .i64 a, .int .i64 b => some (.int .i64 (IntKind.wrap .i64 (a - b)))
  | .mul, .int .i64 a, .int .i64 b => some (.int .i64 (IntKind.wrap .i64 (a * b)))
  | .lss, .int .i64 a, .int .i64 b => some (.bool (decide (a < b)))
  | .leq, .int .i64 a, .int .i64 b => some (.bool (decide (a ≤ b)))
  | .gtr, .int .i64 a, .int .i64 b => some (.bool (decide (b < a)))
  | .geq, .int .i64 a, .int .i64 b => some (.bool (decide (b ≤ a)))
  | .eql, .int .i64 a, .int .i64 b => some (.bool (decide (a = b)))
  | .neq, .int .i64 a, .int .i64 b => some (.bool (!decide (a = b)))
  | .lss, .int .u8 a, .int .u8 b => some (.bool (decide (a < b)))
  | .leq, .int .u8 a, .int .u8 b => some (.bool (decide (a ≤ b)))
  | .gtr, .int .u8 a, .int .u8 b => some (.bool (decide (b < a)))
  | .geq, .int .u8 a, .int .u8 b => some (.bool (decide (b ≤ a)))
  | .eql, .int .u8 a, .int .u8 b => some (.bool (decide (a = b)))
  | .neq, .int .u8 a, .int .u8 b => some (.bool (!decide (a = b)))
  | .lss, .int .u64 a, .int .u64 b => some (.bool (decide (a < b)))
  | .eql, .int .u64 a, .int .u64 b => some (.bool (decide (a = b)))
  | .neq, .int .u64 a, .int .u64 b => some (.bool (!decide (a = b)))
  | .add, .int .u8 a, .int .u8 b => some (.int .u8 (IntKind.wrap .u8 (a + b)))
  | .sub, .int .u64 a, .int .u64 b => some (.int .u64 (IntKind.wrap .u64 (a - b)))
  | .and, .int k a, .int k' b => if k = k' then some (.int k (k.wrap ((BitVec.ofInt k.bits a &&& BitVec.ofInt k.bits b).toNat))) else none
  | .or, .int k a, .int k' b => if k = k' then some (.int k (k.wrap ((BitVec.ofInt k.bits a ||| BitVec.ofInt k.bits b).toNat))) else none
  | .andNot, .int k a, .int k' b => if k = k' then some (.int k (k.wrap ((BitVec.ofInt k.bits a &&& ~~~ BitVec.ofInt k.bits b).toNat))) else none
  | _, _, _ => none
theorem eqGuard_int {op : BinOp} {t : Nat} {ox oy : Operand} {k k' : IntKind} {a b : Int} : eqGuard op t ox oy (.int k a) (.int k' b) = Pure.pure () := by
  unfold eqGuard
  cases op <;> rfl
theorem run_guarded {P : Program} {w : World} {op : BinOp} {t : Nat} {ox oy : Operand} {k k' : IntKind} {a b : Int} {v : Value} (h : (binOp op t (.int k a) (.int k' b)).run P w = .ok v w) :
    (do eqGuard op t ox oy (.int k a) (.int k' b); binOp op t (.int k a) (.int k' b) : Sem Value).run P w = .ok v w := by
  rw [eqGuard_int]; exact h
theorem binV_run {P : Program} {w : World} {op : BinOp} {t : Nat} {ox oy : Operand} {x y v : Value} (h : binV op x y = some v) :
    (do eqGuard op t ox oy x y; binOp op t x y : Sem Value).run P w = .ok v w := by
  unfold binV at h
  split at h
  case h_21 => split at h
               · rename_i e; subst e; injection h with h; subst h; exact run_guarded (by simp [binOp, Op.intBits, Pure.pure, Sem.run])
               · cases h
  case h_22 => split at h
               · rename_i e; subst e; injection h with h; subst h; exact run_guarded (by simp [binOp, Op.intBits, Pure.pure, Sem.run])
               · cases h
  case h_23 => split at h
               · rename_i e; subst e; injection h with h; subst h; exact run_guarded (by simp [binOp, Op.intBits, Pure.pure, Sem.run])
               · cases h
  case h_24 => cases h
  all_goals
    injection h with h; subst h
    refine run_guarded ?_
    first
      | rfl
      | (simp only [binOp, Op.intCmp, ne_eq, not_true_eq_false, if_false]; rfl)
      | (simp [binOp, Op.intCmp, Pure.pure, Sem.run]; done)

end Go.Sep
