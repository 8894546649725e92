/-
  Our own, over any program: drawn regions, with the next operation laid open.
-/
import Derived.Test.YtiiefnnllcghmaaJk
set_option linter.unusedSimpArgs false
set_option linter.unusedVariables false
namespace Go.Sep
open Go.RowKit
/-- The next operation of the order, laid open. -/
def JXO (C : Ctx) (opl : List Oper) (Q : Post) (ks : List Nat) (i : Nat) (op : Oper) (rest : List Nat) (g : Regs) (l : List HP) : Prop := nth opl i = some op → JX C opl Q ks (i :: rest) g l
section
variable {C : Ctx} {opl : List Oper} {Q : Post} {ks rest : List Nat} {g : Regs} {l : List HP} {i : Nat} {o : Op} {ty : TypeId} {pos : String} {af : Array Edge} {gd : Option (Nat × Bool)} {d : Tmp} {dst : Option Tmp} {op : Oper}
theorem JX_op (hi : nth opl i = some op) (k : JXO C opl Q ks i op rest g l) : JX C opl Q ks (i :: rest) g l := k hi
theorem XsO (h : JXO C opl Q ks i op rest g l) : JXO C opl Q ks i op rest g l := h
theorem XsG {x : Nat × Bool} (h : JXO C opl Q ks i ⟨dst, o, ty, pos, af, some x⟩ rest g l) : JXO C opl Q ks i ⟨dst, o, ty, pos, af, some x⟩ rest g l := h
theorem XsMove {x : Operand} (h : JXO C opl Q ks i ⟨dst, .move x, ty, pos, af, gd⟩ rest g l) : JXO C opl Q ks i ⟨dst, .move x, ty, pos, af, gd⟩ rest g l := h
theorem XsBin {b : BinOp} {t t' : TypeId} {x y : Operand} (h : JXO C opl Q ks i ⟨dst, .binOp b t x y t', ty, pos, af, gd⟩ rest g l) : JXO C opl Q ks i ⟨dst, .binOp b t x y t', ty, pos, af, gd⟩ rest g l := h
theorem XsConv {t t' : TypeId} {x : Operand} (h : JXO C opl Q ks i ⟨dst, .convert t t' x, ty, pos, af, gd⟩ rest g l) : JXO C opl Q ks i ⟨dst, .convert t t' x, ty, pos, af, gd⟩ rest g l := h
theorem XsLoad {t : TypeId} {x : Operand} (h : JXO C opl Q ks i ⟨dst, .load t x, ty, pos, af, gd⟩ rest g l) : JXO C opl Q ks i ⟨dst, .load t x, ty, pos, af, gd⟩ rest g l := h
theorem XsStore {t : TypeId} {x y : Operand} (h : JXO C opl Q ks i ⟨dst, .store t x y, ty, pos, af, gd⟩ rest g l) : JXO C opl Q ks i ⟨dst, .store t x y, ty, pos, af, gd⟩ rest g l := h
theorem XsBox {t : TypeId} {x : Operand} (h : JXO C opl Q ks i ⟨dst, .box t x, ty, pos, af, gd⟩ rest g l) : JXO C opl Q ks i ⟨dst, .box t x, ty, pos, af, gd⟩ rest g l := h
theorem XsAlloc {t : TypeId} (h : JXO C opl Q ks i ⟨dst, .alloc t, ty, pos, af, gd⟩ rest g l) : JXO C opl Q ks i ⟨dst, .alloc t, ty, pos, af, gd⟩ rest g l := h
theorem XsBuild {t : TypeId} {p : Array (Nat × Operand)} (h : JXO C opl Q ks i ⟨dst, .build t p, ty, pos, af, gd⟩ rest g l) : JXO C opl Q ks i ⟨dst, .build t p, ty, pos, af, gd⟩ rest g l := h
theorem XO_skip (hk : Nat.blt (kindAt ks i) 2 = true) (hw : gw opl g gd = some false) (hN : Nat.blt d C.N = true) (k : JX C opl Q ks rest ((d, undef) :: g) l) : JXO C opl Q ks i ⟨some d, o, ty, pos, af, gd⟩ rest g l := fun hi => JX_skip hi hk hw hN k
theorem XO_v {v : Value} (hk : Nat.blt (kindAt ks i) 2 = true) (h : pureOp C.ti g o = some v) (hw : gw opl g gd = some true) (hN : Nat.blt d C.N = true) (k : JX C opl Q ks rest ((d, v) :: g) l) : JXO C opl Q ks i ⟨some d, o, ty, pos, af, gd⟩ rest g l := fun hi => JX_v hi hk h hw hN k
theorem XO_val {v : Value} (hk : Nat.blt (kindAt ks i) 2 = true) (h : OpV C g o v) (hw : gw opl g gd = some true) (hN : Nat.blt d C.N = true) (k : JX C opl Q ks rest ((d, v) :: g) l) : JXO C opl Q ks i ⟨some d, o, ty, pos, af, gd⟩ rest g l := fun hi => JX_val hi hk h hw hN k
theorem XO_q {v : Value} (hk : kindAt ks i = 1) (h : OpQ C g l o v) (hw : gw opl g gd = some true) (hN : Nat.blt d C.N = true) (k : JX C opl Q ks rest ((d, v) :: g) l) : JXO C opl Q ks i ⟨some d, o, ty, pos, af, gd⟩ rest g l := fun hi => JX_q hi hk h hw hN k
theorem XO_l {R : Value → List HP → Prop} (hk : kindAt ks i = 2) (h : OpL C g l o R) (hw : gw opl g gd = some true) (hN : Nat.blt d C.N = true) (k : ∀ v l', R v l' → JX C opl Q ks rest ((d, v) :: g) l') : JXO C opl Q ks i ⟨some d, o, ty, pos, af, gd⟩ rest g l := fun hi => JX_l hi hk h hw hN k
theorem XO_l0 {R : Value → List HP → Prop} (hk : kindAt ks i = 2) (h : OpL C g l o R) (hw : gw opl g gd = some true) (k : ∀ v l', R v l' → JX C opl Q ks rest g l') : JXO C opl Q ks i ⟨none, o, ty, pos, af, gd⟩ rest g l := fun hi => JX_l0 hi hk h hw k
theorem XO_mt {x : Operand} {φ : Prop} [Decidable φ] (hk : Nat.blt (kindAt ks i) 2 = true) (h : ev g x = some (.bool (decide φ))) (e : φ) (hw : gw opl g gd = some true) (hN : Nat.blt d C.N = true) (k : JX C opl Q ks rest ((d, .bool true) :: g) l) : JXO C opl Q ks i ⟨some d, .move x, ty, pos, af, gd⟩ rest g l := fun hi => JX_mt hi hk h e hw hN k
theorem XO_mf {x : Operand} {φ : Prop} [Decidable φ] (hk : Nat.blt (kindAt ks i) 2 = true) (h : ev g x = some (.bool (decide φ))) (e : ¬ φ) (hw : gw opl g gd = some true) (hN : Nat.blt d C.N = true) (k : JX C opl Q ks rest ((d, .bool false) :: g) l) : JXO C opl Q ks i ⟨some d, .move x, ty, pos, af, gd⟩ rest g l := fun hi => JX_mf hi hk h e hw hN k
theorem XO_nt {x : Operand} {φ : Prop} [Decidable φ] (hk : Nat.blt (kindAt ks i) 2 = true) (h : ev g x = some (.bool (!decide φ))) (e : ¬ φ) (hw : gw opl g gd = some true) (hN : Nat.blt d C.N = true) (k : JX C opl Q ks rest ((d, .bool true) :: g) l) : JXO C opl Q ks i ⟨some d, .move x, ty, pos, af, gd⟩ rest g l := fun hi => JX_nt hi hk h e hw hN k
theorem XO_nf {x : Operand} {φ : Prop} [Decidable φ] (hk : Nat.blt (kindAt ks i) 2 = true) (h : ev g x = some (.bool (!decide φ))) (e : φ) (hw : gw opl g gd = some true) (hN : Nat.blt d C.N = true) (k : JX C opl Q ks rest ((d, .bool false) :: g) l) : JXO C opl Q ks i ⟨some d, .move x, ty, pos, af, gd⟩ rest g l := fun hi => JX_nf hi hk h e hw hN k
theorem XO_mb {x : Operand} {φ : Prop} [Decidable φ] (hk : Nat.blt (kindAt ks i) 2 = true) (h : ev g x = some (.bool (decide φ))) (hw : gw opl g gd = some true) (hN : Nat.blt d C.N = true) (k1 : φ → JX C opl Q ks rest ((d, .bool true) :: g) l) (k2 : ¬ φ → JX C opl Q ks rest ((d, .bool false) :: g) l) : JXO C opl Q ks i ⟨some d, .move x, ty, pos, af, gd⟩ rest g l := fun hi => JX_mb hi hk h hw hN k1 k2
theorem XO_nb {x : Operand} {φ : Prop} [Decidable φ] (hk : Nat.blt (kindAt ks i) 2 = true) (h : ev g x = some (.bool (!decide φ))) (hw : gw opl g gd = some true) (hN : Nat.blt d C.N = true) (k1 : ¬ φ → JX C opl Q ks rest ((d, .bool true) :: g) l) (k2 : φ → JX C opl Q ks rest ((d, .bool false) :: g) l) : JXO C opl Q ks i ⟨some d, .move x, ty, pos, af, gd⟩ rest g l := fun hi => JX_nb hi hk h hw hN k1 k2
end
end Go.Sep
