/-
  Our own, over any program: structs compared; the n-th assertion; walking.
-/
import Derived.Test.YtchanmljjfcplaaJh
import Derived.Laws.StructEq
import Derived.Tactics
set_option linter.unusedSimpArgs false
set_option linter.unusedVariables false
namespace Go.Sep
open Go.RowKit

section eqagg
variable {C : Ctx} {g : Regs}
/-- What a comparison of two structs of a type comes to. -/
def EqAgg (P : Program) (t : Nat) (xs ys : Array Value) (b : Bool) : Prop := P.eqGuardType P.depth t = false ∧ ∀ w, (Op.equalIn 10000 t (.agg xs) (.agg ys)).run P w = .ok b w
theorem OV_eqagg {t t' : TypeId} {x y : Operand} {xs ys : Array Value} {b : Bool} (hx : ev g x = some (.agg xs)) (hy : ev g y = some (.agg ys)) (h : EqAgg C.P t xs ys b) : OpV C g (.binOp .eql t x y t') (.bool b) := by
  refine ⟨(by intro c h; cases h), fun d ty pos af gd a w hf => ?_⟩
  have hb : (binOp .eql t (.agg xs) (.agg ys)).run C.P w = .ok (.bool b) w := by rw [run_eql_struct, h.2 w]; rfl
  simp only [execOp, hf.ev hx, hf.ev hy, Sem.run_bind, run_eqGuard_agg w .eql t x y xs ys h.1, Result.andThen, hb, Pure.pure, Sem.run]
theorem OV_neqagg {t t' : TypeId} {x y : Operand} {xs ys : Array Value} {b : Bool} (hx : ev g x = some (.agg xs)) (hy : ev g y = some (.agg ys)) (h : EqAgg C.P t xs ys b) : OpV C g (.binOp .neq t x y t') (.bool (!b)) := by
  refine ⟨(by intro c h; cases h), fun d ty pos af gd a w hf => ?_⟩
  have hb : (binOp .neq t (.agg xs) (.agg ys)).run C.P w = .ok (.bool (!b)) w := by rw [run_neq_struct, h.2 w]; rfl
  simp only [execOp, hf.ev hx, hf.ev hy, Sem.run_bind, run_eqGuard_agg w .neq t x y xs ys h.1, Result.andThen, hb, Pure.pure, Sem.run]
theorem OV_eqbool {t t' s1 s2 : Nat} {z : List Value} {x y : Operand} {a b : Bool} (ht : look C.ti t = some ⟨.bool, s1, s2, z⟩) (hx : ev g x = some (.bool a)) (hy : ev g y = some (.bool b)) : OpV C g (.binOp .eql t x y t') (.bool (a == b)) := by
  refine ⟨(by intro c h; cases h), fun d ty pos af gd ac w hf => ?_⟩
  have hu : C.P.underlying t = some .bool := und_bool (C.ok.look ht) rfl
  have hb : (binOp .eql t (.bool a) (.bool b)).run C.P w = .ok (.bool (a == b)) w := by
    have : (Op.equal t (.bool a) (.bool b)).run C.P w = .ok (a == b) w := by
      unfold Op.equal; exact run_equalIn_bool' w 9999 t a b hu
    have e : binOp .eql t (.bool a) (.bool b) = (do Pure.pure (.bool (← Op.equal t (.bool a) (.bool b))) : Sem Value) := by
      first | rfl | simp [binOp]
    rw [e, Sem.run_bind, this]; rfl
  have hg : (eqGuard .eql t x y (.bool a) (.bool b)).run C.P w = .ok () w := by rfl
  simp only [execOp, hf.ev hx, hf.ev hy, Sem.run_bind, hg, Result.andThen, hb, Pure.pure, Sem.run]
theorem OV_neqbool {t t' s1 s2 : Nat} {z : List Value} {x y : Operand} {a b : Bool} (ht : look C.ti t = some ⟨.bool, s1, s2, z⟩) (hx : ev g x = some (.bool a)) (hy : ev g y = some (.bool b)) : OpV C g (.binOp .neq t x y t') (.bool (!(a == b))) := by
  refine ⟨(by intro c h; cases h), fun d ty pos af gd ac w hf => ?_⟩
  have hu : C.P.underlying t = some .bool := und_bool (C.ok.look ht) rfl
  have hb : (binOp .neq t (.bool a) (.bool b)).run C.P w = .ok (.bool (!(a == b))) w := by
    have : (Op.equal t (.bool a) (.bool b)).run C.P w = .ok (a == b) w := by
      unfold Op.equal; exact run_equalIn_bool' w 9999 t a b hu
    have e : binOp .neq t (.bool a) (.bool b) = (do Pure.pure (.bool (!(← Op.equal t (.bool a) (.bool b)))) : Sem Value) := by
      first | rfl | simp [binOp]
    rw [e, Sem.run_bind, this]; rfl
  have hg : (eqGuard .neq t x y (.bool a) (.bool b)).run C.P w = .ok () w := by rfl
  simp only [execOp, hf.ev hx, hf.ev hy, Sem.run_bind, hg, Result.andThen, hb, Pure.pure, Sem.run]
end eqagg
section eqfields
variable {P : Program} {d : Nat} {xs ys : Array Value} {f : Field} {fs : List Field} {a b : Value} {r s : Bool} {w : World}
theorem eqFields_nil : (Op.eqFields d xs ys []).run P w = .ok true w := by simp [Op.eqFields]
theorem eqFields_cons (hn : (f.name == "_") = false) (ha : (part f.type xs f.offset).run P w = .ok a w) (hb : (part f.type ys f.offset).run P w = .ok b w) (he : (Op.equalIn d f.type a b).run P w = .ok r w)
    (hr : (Op.eqFields d xs ys fs).run P w = .ok s w) : (Op.eqFields d xs ys (f :: fs)).run P w = .ok (r && s) w := by
  have hn' : f.name ≠ "_" := by simpa using hn
  rw [Op.eqFields]
  simp only [if_pos hn', Sem.run_bind, ha, hb, he, Result.andThen_ok]
  cases r
  · simp
  · simpa using hr
theorem equalIn_agg {t : TypeId} {fs : Array Field} (hu : P.underlying t = some (.struct fs)) (hp : P.stoodInHeld t = false) (h : (Op.eqFields d xs ys fs.toList).run P w = .ok r w) : (Op.equalIn (d + 1) t (.agg xs) (.agg ys)).run P w = .ok r w := by
  have hf : P.fieldsOf t = fs := by simp [Program.fieldsOf, hu]
  rw [run_equalIn_struct (P := P) w d t xs ys (by rw [hf]; exact hu) hp, hf]
  exact h
end eqfields
/-- The value that a contract tells, told otherwise. -/
theorem Does.to {P : Program} {f : FuncId} {args : List Value} {pre : List HP} {v v' : Value} {l : List HP} (h : Does P f args pre (fun u m => u = v ∧ m = l)) (e : v = v') : Does P f args pre (fun u m => u = v' ∧ m = l) := e ▸ h
/-! what comes next (each leaves its goal alone) -/
section kinds
variable {C : Ctx} {opl rest os : List Oper} {Q : Post} {R : Act → World → Prop} {c : Code} {g : Regs} {l : List HP} {o : Op} {ty : TypeId} {pos : String} {af : Array Edge} {gd : Option (Nat × Bool)} {d : Tmp} {dst : Option Tmp} {ks : List Nat} {order : List Nat}
theorem IsO (h : JO C opl Q os g l) : JO C opl Q os g l := h
theorem IsJ (h : J C c Q g l) : J C c Q g l := h
theorem IsAt (h : At C R g l) : At C R g l := h
theorem IsX {kp : List HP} (h : JX C opl Q kp ks order g l) : JX C opl Q kp ks order g l := h
theorem IsG {x : Nat × Bool} (h : JO C opl Q (⟨dst, o, ty, pos, af, some x⟩ :: rest) g l) : JO C opl Q (⟨dst, o, ty, pos, af, some x⟩ :: rest) g l := h
theorem IsMove {x : Operand} (h : JO C opl Q (⟨dst, .move x, ty, pos, af, gd⟩ :: rest) g l) : JO C opl Q (⟨dst, .move x, ty, pos, af, gd⟩ :: rest) g l := h
theorem IsBin {b : BinOp} {t t' : TypeId} {x y : Operand} (h : JO C opl Q (⟨dst, .binOp b t x y t', ty, pos, af, gd⟩ :: rest) g l) : JO C opl Q (⟨dst, .binOp b t x y t', ty, pos, af, gd⟩ :: rest) g l := h
theorem IsConv {t t' : TypeId} {x : Operand} (h : JO C opl Q (⟨dst, .convert t t' x, ty, pos, af, gd⟩ :: rest) g l) : JO C opl Q (⟨dst, .convert t t' x, ty, pos, af, gd⟩ :: rest) g l := h
theorem IsLoad {t : TypeId} {x : Operand} (h : JO C opl Q (⟨dst, .load t x, ty, pos, af, gd⟩ :: rest) g l) : JO C opl Q (⟨dst, .load t x, ty, pos, af, gd⟩ :: rest) g l := h
theorem IsStore {t : TypeId} {x y : Operand} (h : JO C opl Q (⟨dst, .store t x y, ty, pos, af, gd⟩ :: rest) g l) : JO C opl Q (⟨dst, .store t x y, ty, pos, af, gd⟩ :: rest) g l := h
theorem IsBox {t : TypeId} {x : Operand} (h : JO C opl Q (⟨dst, .box t x, ty, pos, af, gd⟩ :: rest) g l) : JO C opl Q (⟨dst, .box t x, ty, pos, af, gd⟩ :: rest) g l := h
theorem IsAlloc {t : TypeId} (h : JO C opl Q (⟨dst, .alloc t, ty, pos, af, gd⟩ :: rest) g l) : JO C opl Q (⟨dst, .alloc t, ty, pos, af, gd⟩ :: rest) g l := h
theorem IsBuild {t : TypeId} {p : Array (Nat × Operand)} (h : JO C opl Q (⟨dst, .build t p, ty, pos, af, gd⟩ :: rest) g l) : JO C opl Q (⟨dst, .build t p, ty, pos, af, gd⟩ :: rest) g l := h
theorem IsCond {x : Operand} {c1 c2 : Code} (h : J C (.cond x c1 c2) Q g l) : J C (.cond x c1 c2) Q g l := h
end kinds
theorem P0 {α : Type} {x0 : α} {r : List α} : pick1 (x0 :: r) 0 = some (x0, r) := rfl
theorem P1 {α : Type} {x0 x1 : α} {r : List α} : pick1 (x0 :: x1 :: r) 1 = some (x1, x0 :: r) := rfl
theorem P2 {α : Type} {x0 x1 x2 : α} {r : List α} : pick1 (x0 :: x1 :: x2 :: r) 2 = some (x2, x0 :: x1 :: r) := rfl
theorem P3 {α : Type} {x0 x1 x2 x3 : α} {r : List α} : pick1 (x0 :: x1 :: x2 :: x3 :: r) 3 = some (x3, x0 :: x1 :: x2 :: r) := rfl
theorem P4 {α : Type} {x0 x1 x2 x3 x4 : α} {r : List α} : pick1 (x0 :: x1 :: x2 :: x3 :: x4 :: r) 4 = some (x4, x0 :: x1 :: x2 :: x3 :: r) := rfl
theorem P5 {α : Type} {x0 x1 x2 x3 x4 x5 : α} {r : List α} : pick1 (x0 :: x1 :: x2 :: x3 :: x4 :: x5 :: r) 5 = some (x5, x0 :: x1 :: x2 :: x3 :: x4 :: r) := rfl
theorem P6 {α : Type} {x0 x1 x2 x3 x4 x5 x6 : α} {r : List α} : pick1 (x0 :: x1 :: x2 :: x3 :: x4 :: x5 :: x6 :: r) 6 = some (x6, x0 :: x1 :: x2 :: x3 :: x4 :: x5 :: r) := rfl
theorem P7 {α : Type} {x0 x1 x2 x3 x4 x5 x6 x7 : α} {r : List α} : pick1 (x0 :: x1 :: x2 :: x3 :: x4 :: x5 :: x6 :: x7 :: r) 7 = some (x7, x0 :: x1 :: x2 :: x3 :: x4 :: x5 :: x6 :: r) := rfl
/-- A block is at hand. -/
theorem blk_mem {b : Nat} {cs cs' : List Value} {T T' : Nat} {l : List HP} (h : blk b cs T ∈ l) (e1 : cs = cs') (e2 : T = T') : blk b cs' T' ∈ l := by subst e1 e2; exact h
end Go.Sep
