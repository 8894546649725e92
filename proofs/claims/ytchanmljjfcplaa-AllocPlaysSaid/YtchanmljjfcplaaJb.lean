/-
  Our own, over any program: operations that leave the memory alone ('pureOp'), and what is said of them.
-/
import Derived.Test.YtchanmljjfcplaaJa
set_option linter.unusedSimpArgs false
set_option linter.unusedVariables false
namespace Go.Sep
open Go.RowKit

def nilV : Value → Option Value
  | .pointer (some p) => some (.pointer (some p))
  | .func (.func f) u v => some (.func (.func f) u v)
  | .func (.yield l) u v => some (.func (.yield l) u v)
  | _ => none
def lenV (ti : TIs) (t : Nat) : Value → Option Value
  | .slice _ n _ => match look ti t with
    | some ⟨.slice _, _, _, _⟩ => some (.int .i64 n)
    | _ => none
  | _ => none
def minV : Value → Value → Option Value
  | .int .i64 x, .int .i64 y => some (.int .i64 (if y < x then y else x))
  | _, _ => none
def maxV : Value → Value → Option Value
  | .int .i64 x, .int .i64 y => some (.int .i64 (if x < y then y else x))
  | _, _ => none
def fieldV (ti : TIs) (s f : Nat) : Value → Option Value
  | .agg cs => match look ti s with
    | some ⟨.struct fs, _, _, _⟩ => match fs[f]? with
      | some (off, ft) => match look ti ft with
        | some ⟨d, sz, _, _⟩ => bif d.isAgg then some (.agg (cs.extract off (off + sz))) else cs.toList[off]?
        | none => none
      | none => none
    | _ => none
  | _ => none
def builtinV (ti : TIs) : Builtin → List Operand → List Nat → Regs → Option Value
  | .len, [x], [t], g => match ev g x with
    | some v => lenV ti t v
    | none => none
  | .min, [x, y], _, g => match ev g x, ev g y with
    | some a, some b => minV a b
    | _, _ => none
  | .max, [x, y], _, g => match ev g x, ev g y with
    | some a, some b => maxV a b
    | _, _ => none
  | _, _, _, _ => none
def pureOp (ti : TIs) (g : Regs) : Op → Option Value
  | .move x => ev g x
  | .assign x => ev g x
  | .pick c a b => match ev g c with
    | some (.bool true) => ev g a
    | some (.bool false) => ev g b
    | _ => none
  | .nilCheck x => match ev g x with
    | some v => nilV v
    | none => none
  | .fieldAddr s x f => match ev g x, fieldOff ti s f with
    | some (.pointer (some ⟨b, o, none⟩)), some d => some (.pointer (some ⟨b, o + d, none⟩))
    | _, _ => none
  | .field s x f => match ev g x with
    | some v => fieldV ti s f v
    | none => none
  | .extract x i => match ev g x with
    | some (.tuple vs) => vs.toList[i]?
    | _ => none
  | .unOp .not _ x => match ev g x with
    | some (.bool b) => some (.bool (!b))
    | _ => none
  | .unOp .neg _ x => match ev g x with
    | some (.int .i64 n) => some (.int .i64 (IntKind.wrap .i64 (0 - n)))
    | _ => none
  | .binOp op _ x y _ => match ev g x, ev g y with
    | some a, some b => binV op a b
    | _, _ => none
  | .convert s d x => match look ti s, look ti d, ev g x with
    | some _, some ⟨.int k, _, _, _⟩, some (.int _ n) => some (.int k (k.wrap n))
    | _, _, _ => none
  | .makeFunc fn a b => match evs g a.toList, evs g b.toList with
    | some u, some v => some (.func fn u.toArray v.toArray)
    | _, _ => none
  | .call { callee := .builtin b, args := xs, argTypes := ts } => builtinV ti b xs.toList ts.toList g
  | _ => none

/-- The operation comes to v, whatever the memory. -/
def OpV (C : Ctx) (g : Regs) (o : Op) (v : Value) : Prop :=
  (∀ c, o ≠ .defer c) ∧ ∀ (d : Option Tmp) (ty : TypeId) (pos : String) (af : Array Edge) (gd : Option (Nat × Bool)) (a : Act) (w : World), Fits C g a →
    (execOp a.eval ⟨d, o, ty, pos, af, gd⟩).run C.P w = .ok (.value v) w

theorem addr_add (b o d : Nat) : (Addr.add ⟨b, o, none⟩ d) = ⟨b, o + d, none⟩ := by
  unfold Addr.add
  split
  · rename_i h; subst h; rfl
  · rfl

theorem run_fieldAt {C : Ctx} {s f b o d : Nat} (h : fieldOff C.ti s f = some d) (w : World) :
    (Instr.fieldAt s (.pointer (some ⟨b, o, none⟩)) f).run C.P w = .ok (.pointer (some ⟨b, o + d, none⟩)) w := by
  unfold fieldOff at h
  split at h
  · rename_i fs sz by_ z hl
    split at h
    · rename_i off ft hft
      split at h
      · rename_i d' sz' by' z' hl'
        obtain ⟨gs, hu, hgs⟩ := und_struct (C.ok.look hl) rfl
        have hs := run_sizeOf (P := C.P) w (C.ok.look hl')
        cases hz : Nat.beq sz' 0 with
        | true => simp [hz] at h
        | false =>
          simp only [hz, cond_false] at h
          injection h with h
          subst h
          have hne : sz' ≠ 0 := fun e => by subst e; simp at hz
          rw [← hgs, List.getElem?_map] at hft
          obtain ⟨fl, hfl, he⟩ := Option.map_eq_some_iff.1 hft
          injection he with h1 h2
          subst h1 h2
          have hfl' : gs[f]? = some fl := by simpa using hfl
          simp [Instr.fieldAt, Sem.run_bind, run_underlying hu w, Result.andThen, hfl', Instr.sureAddr, Pure.pure, fieldPlace, hs, hne, addr_add]
      · cases h
    · cases h
  · cases h

theorem run_fieldV {C : Ctx} {s f : Nat} {x v : Value} (h : fieldV C.ti s f x = some v) (w : World) : (Instr.field s x f).run C.P w = .ok v w := by
  unfold fieldV at h
  split at h
  · rename_i cs
    split at h
    · rename_i fs sz by_ z hl
      split at h
      · rename_i off ft hft
        split at h
        · rename_i d' sz' by' z' hl'
          obtain ⟨gs, hu, hgs⟩ := und_struct (C.ok.look hl) rfl
          have hs := run_sizeOf (P := C.P) w (C.ok.look hl')
          have ha := run_isAgg (P := C.P) w (C.ok.look hl')
          rw [← hgs, List.getElem?_map] at hft
          obtain ⟨fl, hfl, he⟩ := Option.map_eq_some_iff.1 hft
          injection he with h1 h2
          subst h1 h2
          have hfl' : gs[f]? = some fl := by simpa using hfl
          cases hz : d'.isAgg with
          | true =>
            simp only [hz, cond_true] at h
            injection h with h
            subst h
            simp only at hs ha
            rw [hz] at ha
            simp [Instr.field, Sem.run_bind, run_underlying hu w, Result.andThen, hfl', part, ha, hs, asAgg, Pure.pure]
          | false =>
            simp only [hz, cond_false] at h
            simp only at hs ha
            rw [hz] at ha
            have h' : cs[fl.offset]? = some v := by simpa using h
            simp [Instr.field, Sem.run_bind, run_underlying hu w, Result.andThen, hfl', part, ha, asAgg, h', Pure.pure]
        · cases h
      · cases h
    · cases h
  · cases h

theorem run_builtin_of {P : Program} {ρ : Operand → Value} {b : Builtin} {xs : Array Operand} {ts : Array TypeId} {w w' : World} {d : Option Tmp} {ty : TypeId} {pos : String} {af : Array Edge} {gd : Option (Nat × Bool)} {n : Next}
    (h : (builtin b ts ty (xs.map fun | .const _ => true | _ => false) (xs.map ρ)).run P w = .ok n w') :
    (execOp ρ ⟨d, .call { callee := .builtin b, args := xs, argTypes := ts }, ty, pos, af, gd⟩).run P w = .ok n w' := by
  simp only [execOp, resolve, Sem.run_bind, Pure.pure, Sem.run, Result.andThen, invoke]
  exact h

theorem arr_of {α β : Type} {xs : Array α} {f : α → β} {u : List β} (h : xs.toList.map f = u) : xs.map f = u.toArray := by
  subst h
  apply Array.ext'
  simp
theorem run_lenV {C : Ctx} {t : Nat} {x v : Value} (h : lenV C.ti t x = some v) (w : World) {ty : TypeId} : (Builtin.len_ #[t] ty #[x]).run C.P w = .ok v w := by
  unfold lenV at h
  split at h
  · split at h
    · rename_i e _ _ _ hl
      injection h with h; subst h
      simp only [Builtin.len_, List.getElem?_toArray, List.getElem?_cons_zero, Sem.run_bind, run_underlying (und_slice (C.ok.look hl) rfl) w, Result.andThen]
      rfl
    · cases h
  · cases h
theorem run_minV {P : Program} {x y v : Value} (h : minV x y = some v) (w : World) {ts : Array TypeId} {ty : TypeId} : (Builtin.min_ ts ty #[x, y]).run P w = .ok v w := by
  unfold minV at h
  split at h
  · injection h with h; subst h; rfl
  · cases h
theorem run_maxV {P : Program} {x y v : Value} (h : maxV x y = some v) (w : World) {ts : Array TypeId} {ty : TypeId} : (Builtin.max_ ts ty #[x, y]).run P w = .ok v w := by
  unfold maxV at h
  split at h
  · injection h with h; subst h; rfl
  · cases h
theorem arr_lit {α : Type} {xs : Array α} {l : List α} (h : xs.toList = l) : xs = l.toArray := by
  subst h; simp
theorem builtinV_run {C : Ctx} {g : Regs} {a : Act} {b : Builtin} {xs : Array Operand} {ts : Array TypeId} {v : Value} {w : World} {ty : TypeId} {cs : Array Bool} (hf : Fits C g a)
    (h : builtinV C.ti b xs.toList ts.toList g = some v) : (builtin b ts ty cs (xs.map a.eval)).run C.P w = .ok (.value v) w := by
  unfold builtinV at h
  split at h
  · rename_i x t h1 h2
    rw [arr_lit h1, arr_lit h2]
    split at h
    · rename_i u hu
      simp only [builtin, List.map_toArray, List.map_cons, List.map_nil, hf.ev hu]
      rw [Sem.run_bind, run_lenV h]
      rfl
    · cases h
  · rename_i x y _ h1
    rw [arr_lit h1]
    split at h
    · rename_i u u' hu hu'
      simp only [builtin, List.map_toArray, List.map_cons, List.map_nil, hf.ev hu, hf.ev hu']
      rw [Sem.run_bind, run_minV h]
      rfl
    · cases h
  · rename_i x y _ h1
    rw [arr_lit h1]
    split at h
    · rename_i u u' hu hu'
      simp only [builtin, List.map_toArray, List.map_cons, List.map_nil, hf.ev hu, hf.ev hu']
      rw [Sem.run_bind, run_maxV h]
      rfl
    · cases h
  · cases h

theorem pureOp_sound {C : Ctx} {g : Regs} {o : Op} {v : Value} (h : pureOp C.ti g o = some v) : OpV C g o v := by
  refine ⟨?_, ?_⟩
  · rintro c rfl
    simp [pureOp] at h
  intro d ty pos af gd a w hf
  unfold pureOp at h
  split at h
  · simp [execOp, hf.ev h, Pure.pure, Sem.run]
  · simp [execOp, hf.ev h, Pure.pure, Sem.run]
  · split at h
    · rename_i h1; simp [execOp, hf.ev h1, hf.ev h, asBool, Sem.run_bind, Result.andThen, Pure.pure, Sem.run]
    · rename_i h1; simp [execOp, hf.ev h1, hf.ev h, asBool, Sem.run_bind, Result.andThen, Pure.pure, Sem.run]
    · cases h
  · split at h
    · rename_i u h1
      unfold nilV at h
      split at h
      · injection h with h; subst h; simp [execOp, hf.ev h1, Pure.pure, Sem.run]
      · injection h with h; subst h; simp [execOp, hf.ev h1, Pure.pure, Sem.run]
      · injection h with h; subst h; simp [execOp, hf.ev h1, Pure.pure, Sem.run]
      · cases h
    · cases h
  · split at h
    · rename_i b' o' d' h1 h2
      injection h with h; subst h
      simp only [execOp, hf.ev h1, Sem.run_bind, run_fieldAt h2 w, Result.andThen, Pure.pure, Sem.run]
    · cases h
  · split at h
    · rename_i u h1
      simp only [execOp, hf.ev h1, Sem.run_bind, run_fieldV h w, Result.andThen, Pure.pure, Sem.run]
    · cases h
  · split at h
    · rename_i vs h1
      have h' := h
      rw [Array.getElem?_toList] at h'
      simp [execOp, hf.ev h1, Instr.extract, h', Sem.run_bind, Result.andThen, Pure.pure, Sem.run]
    · cases h
  · split at h
    · rename_i b h1
      injection h with h; subst h
      simp [execOp, hf.ev h1, Op.unary, Sem.run_bind, Result.andThen, Pure.pure, Sem.run]
    · cases h
  · split at h
    · rename_i b h1
      injection h with h; subst h
      simp [execOp, hf.ev h1, Op.unary, Op.intArith, Sem.run_bind, Result.andThen, Pure.pure, Sem.run]
    · cases h
  · split at h
    · rename_i x y h1 h2
      have h3 := fun t ox oy => binV_run (P := C.P) (w := w) (t := t) (ox := ox) (oy := oy) h
      simp only [execOp, hf.ev h1, hf.ev h2]
      rw [Sem.run_bind, h3]
      rfl
    · cases h
  · split at h
    · rename_i i k sz by_ z k' n h1 h2 h3
      injection h with h; subst h
      obtain ⟨f, ds, z', _, hu, _⟩ := tyView_parts (C.ok.look h1)
      have hc : ∀ s t, C.P.underlying s = some ds → C.P.underlying t = some (.int k) → (convert s t (.int k' n)).run C.P w = .ok (.int k (k.wrap n)) w := fun s t hs ht => by
        simp only [convert, Sem.run_bind, run_underlying hs w, run_underlying ht w, Result.andThen]
        rfl
      simp only [execOp, hf.ev h3]
      rw [Sem.run_bind, hc _ _ hu (und_int (C.ok.look h2) rfl)]
      rfl
    · cases h
  · split at h
    · rename_i u u' h1 h2
      injection h with h; subst h
      have e1 := arr_of (hf.evs h1)
      have e2 := arr_of (hf.evs h2)
      simp only [execOp, e1, e2]
      rfl
    · cases h
  · refine run_builtin_of ?_
    exact builtinV_run hf h
  · cases h

end Go.Sep
