/-
  Our own, over any program: drawn regions, with the next operation laid open.
-/
import Derived.Test.YtchanmljjfcplaaJk
set_option linter.unusedSimpArgs false
set_option linter.unusedVariables false
namespace Go.Sep
open Go.RowKit
/-- A cut, where the sequence has been taken apart already. -/
theorem J_cutP {C : Ctx} {Q : Post} {g : Regs} {l : List HP} {x y : Code} {α : Type} (I : α → Prop) (G : α → Regs) (L : α → List HP) (h : J C x (PMeet C I G L Q) g l) (k : ∀ z, I z → J C y Q (G z) (L z)) : J C x (PThen C y Q) g l := by
  refine ⟨fun a w hf hs => wpIn_mono (h.out a w hf hs) ?_⟩
  intro e a' w' hq
  cases e with
  | normal => obtain ⟨z, hIz, hfz, hsz⟩ := hq; exact (k z hIz).out a' w' hfz hsz
  | _ => exact hq
/-- The next operation of the order, laid open. -/
def JXO (C : Ctx) (opl : List Oper) (Q : Post) (kp : List HP) (ks : List Nat) (i : Nat) (op : Oper) (rest : List Nat) (g : Regs) (l : List HP) : Prop := nth opl i = some op → JX C opl Q kp ks (i :: rest) g l
section
variable {C : Ctx} {opl : List Oper} {Q : Post} {kp : List HP} {ks rest : List Nat} {g : Regs} {l : List HP} {i : Nat} {o : Op} {ty : TypeId} {pos : String} {af : Array Edge} {gd : Option (Nat × Bool)} {d : Tmp} {dst : Option Tmp} {op : Oper}
theorem JX_op (hi : nth opl i = some op) (k : JXO C opl Q kp ks i op rest g l) : JX C opl Q kp ks (i :: rest) g l := k hi
theorem XsO (h : JXO C opl Q kp ks i op rest g l) : JXO C opl Q kp ks i op rest g l := h
theorem XsG {x : Nat × Bool} (h : JXO C opl Q kp ks i ⟨dst, o, ty, pos, af, some x⟩ rest g l) : JXO C opl Q kp ks i ⟨dst, o, ty, pos, af, some x⟩ rest g l := h
theorem XsMove {x : Operand} (h : JXO C opl Q kp ks i ⟨dst, .move x, ty, pos, af, gd⟩ rest g l) : JXO C opl Q kp ks i ⟨dst, .move x, ty, pos, af, gd⟩ rest g l := h
theorem XsBin {b : BinOp} {t t' : TypeId} {x y : Operand} (h : JXO C opl Q kp ks i ⟨dst, .binOp b t x y t', ty, pos, af, gd⟩ rest g l) : JXO C opl Q kp ks i ⟨dst, .binOp b t x y t', ty, pos, af, gd⟩ rest g l := h
theorem XsConv {t t' : TypeId} {x : Operand} (h : JXO C opl Q kp ks i ⟨dst, .convert t t' x, ty, pos, af, gd⟩ rest g l) : JXO C opl Q kp ks i ⟨dst, .convert t t' x, ty, pos, af, gd⟩ rest g l := h
theorem XsLoad {t : TypeId} {x : Operand} (h : JXO C opl Q kp ks i ⟨dst, .load t x, ty, pos, af, gd⟩ rest g l) : JXO C opl Q kp ks i ⟨dst, .load t x, ty, pos, af, gd⟩ rest g l := h
theorem XsStore {t : TypeId} {x y : Operand} (h : JXO C opl Q kp ks i ⟨dst, .store t x y, ty, pos, af, gd⟩ rest g l) : JXO C opl Q kp ks i ⟨dst, .store t x y, ty, pos, af, gd⟩ rest g l := h
theorem XsBox {t : TypeId} {x : Operand} (h : JXO C opl Q kp ks i ⟨dst, .box t x, ty, pos, af, gd⟩ rest g l) : JXO C opl Q kp ks i ⟨dst, .box t x, ty, pos, af, gd⟩ rest g l := h
theorem XsAlloc {t : TypeId} (h : JXO C opl Q kp ks i ⟨dst, .alloc t, ty, pos, af, gd⟩ rest g l) : JXO C opl Q kp ks i ⟨dst, .alloc t, ty, pos, af, gd⟩ rest g l := h
theorem XsBuild {t : TypeId} {p : Array (Nat × Operand)} (h : JXO C opl Q kp ks i ⟨dst, .build t p, ty, pos, af, gd⟩ rest g l) : JXO C opl Q kp ks i ⟨dst, .build t p, ty, pos, af, gd⟩ rest g l := h
theorem XO_skip (hk : Nat.blt (kindAt ks i) 2 = true) (hw : gw opl g gd = some false) (hN : Nat.blt d C.N = true) (k : JX C opl Q kp ks rest ((d, undef) :: g) l) : JXO C opl Q kp ks i ⟨some d, o, ty, pos, af, gd⟩ rest g l := fun hi => JX_skip hi hk hw hN k
theorem XO_v {v : Value} (hk : Nat.blt (kindAt ks i) 2 = true) (h : pureOp C.ti g o = some v) (hw : gw opl g gd = some true) (hN : Nat.blt d C.N = true) (k : JX C opl Q kp ks rest ((d, v) :: g) l) : JXO C opl Q kp ks i ⟨some d, o, ty, pos, af, gd⟩ rest g l := fun hi => JX_v hi hk h hw hN k
theorem XO_val {v : Value} (hk : Nat.blt (kindAt ks i) 2 = true) (h : OpV C g o v) (hw : gw opl g gd = some true) (hN : Nat.blt d C.N = true) (k : JX C opl Q kp ks rest ((d, v) :: g) l) : JXO C opl Q kp ks i ⟨some d, o, ty, pos, af, gd⟩ rest g l := fun hi => JX_val hi hk h hw hN k
theorem XO_q {v : Value} (hk : kindAt ks i = 1) (h : OpQ C g l o v) (hw : gw opl g gd = some true) (hN : Nat.blt d C.N = true) (k : JX C opl Q kp ks rest ((d, v) :: g) l) : JXO C opl Q kp ks i ⟨some d, o, ty, pos, af, gd⟩ rest g l := fun hi => JX_q hi hk h hw hN k
theorem XO_l {R : Value → List HP → Prop} (hk : kindAt ks i = 2) (h : OpL C g l o R) (hw : gw opl g gd = some true) (hN : Nat.blt d C.N = true) (k : ∀ v l', R v l' → JX C opl Q [] ks rest ((d, v) :: g) l') : JXO C opl Q [] ks i ⟨some d, o, ty, pos, af, gd⟩ rest g l := fun hi => JX_l hi hk h hw hN k
theorem XO_lk {R : Value → List HP → Prop} (hk : kindAt ks i = 2) (h : OpL C g l o R) (hw : gw opl g gd = some true) (hN : Nat.blt d C.N = true) (hkp : ∀ v l', R v l' → ∀ H, Stars l' H → Stars kp H) (k : ∀ v l', R v l' → (∃ w, Sat C.W (l' ++ C.fr) w) → JX C opl Q kp ks rest ((d, v) :: g) l') : JXO C opl Q kp ks i ⟨some d, o, ty, pos, af, gd⟩ rest g l := fun hi => JX_lk hi hk h hw hN hkp k
theorem XO_l0 {R : Value → List HP → Prop} (hk : kindAt ks i = 2) (h : OpL C g l o R) (hw : gw opl g gd = some true) (k : ∀ v l', R v l' → JX C opl Q [] ks rest g l') : JXO C opl Q [] ks i ⟨none, o, ty, pos, af, gd⟩ rest g l := fun hi => JX_l0 hi hk h hw k
theorem XO_l0k {R : Value → List HP → Prop} (hk : kindAt ks i = 2) (h : OpL C g l o R) (hw : gw opl g gd = some true) (hkp : ∀ v l', R v l' → ∀ H, Stars l' H → Stars kp H) (k : ∀ v l', R v l' → (∃ w, Sat C.W (l' ++ C.fr) w) → JX C opl Q kp ks rest g l') : JXO C opl Q kp ks i ⟨none, o, ty, pos, af, gd⟩ rest g l := fun hi => JX_l0k hi hk h hw hkp k
theorem XO_kept {v : Value} (hk : kindAt ks i = 5) (h : OpK C g kp o v) (hw : gw opl g gd = some true) (hN : Nat.blt d C.N = true) (k : JX C opl Q kp ks rest ((d, v) :: g) l) : JXO C opl Q kp ks i ⟨some d, o, ty, pos, af, gd⟩ rest g l := fun hi => JX_kept hi hk h hw hN k
theorem XO_mt {x : Operand} {φ : Prop} [Decidable φ] (hk : Nat.blt (kindAt ks i) 2 = true) (h : ev g x = some (.bool (decide φ))) (e : φ) (hw : gw opl g gd = some true) (hN : Nat.blt d C.N = true) (k : JX C opl Q kp ks rest ((d, .bool true) :: g) l) : JXO C opl Q kp ks i ⟨some d, .move x, ty, pos, af, gd⟩ rest g l := fun hi => JX_mt hi hk h e hw hN k
theorem XO_mf {x : Operand} {φ : Prop} [Decidable φ] (hk : Nat.blt (kindAt ks i) 2 = true) (h : ev g x = some (.bool (decide φ))) (e : ¬ φ) (hw : gw opl g gd = some true) (hN : Nat.blt d C.N = true) (k : JX C opl Q kp ks rest ((d, .bool false) :: g) l) : JXO C opl Q kp ks i ⟨some d, .move x, ty, pos, af, gd⟩ rest g l := fun hi => JX_mf hi hk h e hw hN k
theorem XO_nt {x : Operand} {φ : Prop} [Decidable φ] (hk : Nat.blt (kindAt ks i) 2 = true) (h : ev g x = some (.bool (!decide φ))) (e : ¬ φ) (hw : gw opl g gd = some true) (hN : Nat.blt d C.N = true) (k : JX C opl Q kp ks rest ((d, .bool true) :: g) l) : JXO C opl Q kp ks i ⟨some d, .move x, ty, pos, af, gd⟩ rest g l := fun hi => JX_nt hi hk h e hw hN k
theorem XO_nf {x : Operand} {φ : Prop} [Decidable φ] (hk : Nat.blt (kindAt ks i) 2 = true) (h : ev g x = some (.bool (!decide φ))) (e : φ) (hw : gw opl g gd = some true) (hN : Nat.blt d C.N = true) (k : JX C opl Q kp ks rest ((d, .bool false) :: g) l) : JXO C opl Q kp ks i ⟨some d, .move x, ty, pos, af, gd⟩ rest g l := fun hi => JX_nf hi hk h e hw hN k
theorem XO_mb {x : Operand} {φ : Prop} [Decidable φ] (hk : Nat.blt (kindAt ks i) 2 = true) (h : ev g x = some (.bool (decide φ))) (hw : gw opl g gd = some true) (hN : Nat.blt d C.N = true) (k1 : φ → JX C opl Q kp ks rest ((d, .bool true) :: g) l) (k2 : ¬ φ → JX C opl Q kp ks rest ((d, .bool false) :: g) l) : JXO C opl Q kp ks i ⟨some d, .move x, ty, pos, af, gd⟩ rest g l := fun hi => JX_mb hi hk h hw hN k1 k2
theorem XO_nb {x : Operand} {φ : Prop} [Decidable φ] (hk : Nat.blt (kindAt ks i) 2 = true) (h : ev g x = some (.bool (!decide φ))) (hw : gw opl g gd = some true) (hN : Nat.blt d C.N = true) (k1 : ¬ φ → JX C opl Q kp ks rest ((d, .bool true) :: g) l) (k2 : φ → JX C opl Q kp ks rest ((d, .bool false) :: g) l) : JXO C opl Q kp ks i ⟨some d, .move x, ty, pos, af, gd⟩ rest g l := fun hi => JX_nb hi hk h hw hN k1 k2
theorem OK_load {T b o T' : Nat} {x : Operand} {cs : List Value} {v : Value} (hx : ev g x = some (ptr b o)) (ha : aggAt C.ti T = some false) (m : blk b cs T' ∈ kp) (hc : cs[o]? = some v) : OpK C g kp (.load T x) v :=
  ⟨fun dst ty pos af gd a hf w hs => by
    have hb := hs.blk m
    have hl : (load ⟨b, o, none⟩).run C.P w = .ok v w := run_load (by rw [cell_of hb]; exact hc)
    simp only [execOp, hf.ev hx, ptr, Instr.loadAt, Instr.sureAddr, loadVar, Sem.run_bind, Sem.run, Result.andThen, Pure.pure, aggAt_run ha w, Bool.false_eq_true, if_false, hl]⟩
theorem OK_loadA {T b o T' n : Nat} {x : Operand} {cs vs : List Value} (hx : ev g x = some (ptr b o)) (ha : aggAt C.ti T = some true) (hn : sizeAt C.ti T = some n) (m : blk b cs T' ∈ kp) (hc : takeL cs o n = some vs) : OpK C g kp (.load T x) (.agg vs.toArray) :=
  ⟨fun dst ty pos af gd a hf w hs => by
    have hb := hs.blk m
    have hl : (loadCells ⟨b, o, none⟩ n).run C.P w = .ok vs.toArray w := by
      have := run_loadCells (P := C.P) hb o n 0 vs #[] hc
      simpa [loadCells] using this
    simp only [execOp, hf.ev hx, ptr, Instr.loadAt, Instr.sureAddr, loadVar, Sem.run_bind, Sem.run, Result.andThen, Pure.pure, aggAt_run ha w, if_true, sizeAt_run hn w, hl]⟩
theorem OK_read {T b o m sz cap i : Nat} {R : HP} {cs : List Value} {x : Operand} {v : Value} (h : Reads R sz m (some ⟨b, o, none⟩) cap cs) (hR : R ∈ kp) (hx : ev g x = some (ptr b (o + i))) (ha : aggAt C.ti T = some false) (hi : i < m * sz) (hc : cs[i]? = some v) : OpK C g kp (.load T x) v :=
  ⟨fun dst ty pos af gd a hf w hs => by
    obtain ⟨b', o', e', hc'⟩ := h.cell _ _ w hs hR i hi
    injection e' with e'
    injection e' with e1 e2
    subst e1 e2
    have hl : (load ⟨b, o + i, none⟩).run C.P w = .ok v w := run_load (hc'.trans hc)
    simp only [execOp, hf.ev hx, ptr, Instr.loadAt, Instr.sureAddr, loadVar, Sem.run_bind, Sem.run, Result.andThen, Pure.pure, aggAt_run ha w, Bool.false_eq_true, if_false, hl]⟩
end
end Go.Sep
