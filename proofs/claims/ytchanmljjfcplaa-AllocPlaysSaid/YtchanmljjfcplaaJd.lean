/-
  Our own, over any program: the rules of 'JO', operation by operation.
-/
import Derived.Test.YtchanmljjfcplaaJc
import Derived.IntWalk
import Derived.Deep.Quiet
set_option linter.unusedSimpArgs false
set_option linter.unusedVariables false
namespace Go.Sep
open Go.RowKit

/-- The n-th. -/
def nth {α : Type} : List α → Nat → Option α
  | [], _ => none
  | x :: _, 0 => some x
  | _ :: l, n + 1 => nth l n
theorem nth_eq {α : Type} : ∀ (l : List α) (n : Nat), nth l n = l[n]?
  | [], _ => by simp [nth]
  | _ :: _, 0 => by simp [nth]
  | _ :: l, n + 1 => by simp [nth, nth_eq l n]
def isTrue : Value → Option Bool
  | .bool b => some b
  | _ => none
/-- Whether a guard lets its operation run. -/
def gw (opl : List Oper) (g : Regs) : Option (Nat × Bool) → Option Bool
  | none => some true
  | some (j, want) => match nth opl j with
    | some ⟨some d, _, _, _, _, _⟩ => match look g d with
      | some v => match isTrue v with
        | some b => some (b == want)
        | none => some false
      | none => none
    | _ => none
/-- What an operation may be asked at: registers, assertions, its guard, its place. -/
theorem wpIn_of_upon {C : Ctx} {o : Oper} {a : Act} {w : World} {K : Act → World → Prop} {Q : Post} (hd : ∀ c, o.op ≠ .defer c) (h : o.uponIn (FR C.r) 0 C.P a K Q ((execOp a.eval o).run C.P w)) :
    o.wpIn (FR C.r) 0 C.P a w K Q := by
  refine ⟨fun _ _ => trivial, ?_⟩
  rw [Oper.semAt_eq _ _ _ hd]
  exact h

theorem Fits.lt {C : Ctx} {g : Regs} {a : Act} (h : Fits C g a) {d : Nat} {v : Value} (e : look g d = some v) (hv : v ≠ undef) : d < C.N := by
  have h3 := h.2.2 d v e
  rcases Nat.lt_or_ge d C.N with h' | h'
  · exact h'
  · rw [Array.getD_eq_getD_getElem?, Array.getElem?_eq_none (by rw [h.2.1]; exact h')] at h3
    exact absurd h3.symm hv

theorem gw_true {C : Ctx} {opl : List Oper} {g : Regs} {a : Act} {o : Oper} (hf : Fits C g a) (h : gw opl g o.guard = some true) :
    Region.wanted o (yielded opl.toArray a.tmps) = true := by
  unfold gw at h
  unfold Region.wanted
  split at h
  · rename_i e; rw [e]
  · rename_i j want e
    rw [e]
    split at h
    · rename_i d _ _ _ _ _ hn
      rw [nth_eq] at hn
      split at h
      · rename_i v hv
        split at h
        · rename_i b' hb
          injection h with h
          cases v <;> simp [isTrue] at hb
          subst hb
          rename_i c
          have hlt : d < a.tmps.size := by rw [hf.2.1]; exact hf.lt hv (by intro x; cases x)
          have h1 := hf.2.2 d _ hv
          have h2 : a.tmps[d]? = some (.bool c) := by
            rw [Array.getD_eq_getD_getElem?] at h1
            rw [Array.getElem?_eq_getElem hlt] at h1 ⊢
            simpa using h1
          have hy : yielded opl.toArray a.tmps j = some c := by
            unfold yielded
            simp [hn, h2]
          simp only [hy]
          cases c <;> cases want <;> simp_all
        · cases h
      · cases h
    · cases h
theorem gw_false {C : Ctx} {opl : List Oper} {g : Regs} {a : Act} {o : Oper} (hf : Fits C g a) (h : gw opl g o.guard = some false) :
    Region.wanted o (yielded opl.toArray a.tmps) = false := by
  unfold gw at h
  unfold Region.wanted
  split at h
  · cases h
  · rename_i j want e
    rw [e]
    split at h
    · rename_i d _ _ _ _ _ hn
      rw [nth_eq] at hn
      split at h
      · rename_i v hv
        have h1 := hf.2.2 d v hv
        have hy : yielded opl.toArray a.tmps j = none ∨ ∃ c, v = .bool c ∧ yielded opl.toArray a.tmps j = some c := by
          unfold yielded
          simp only [List.getElem?_toArray, hn, Option.bind_some]
          rcases Nat.lt_or_ge d a.tmps.size with hlt | hge
          · rw [Array.getD_eq_getD_getElem?, Array.getElem?_eq_getElem hlt] at h1
            rw [Array.getElem?_eq_getElem hlt]
            simp at h1
            subst h1
            cases hx : a.tmps[d] <;> simp
          · left; simp [Array.getElem?_eq_none hge]
        rcases hy with hy | ⟨c, rfl, hy⟩
        · simp [hy]
        · simp only [isTrue] at h
          injection h with h
          simp only [hy]
          cases c <;> cases want <;> simp_all
      · cases h
    · cases h

section rules
variable {C : Ctx} {opl : List Oper} {Q : Post} {rest : List Oper} {g : Regs} {l : List HP} {o : Op} {ty : TypeId} {pos : String} {af : Array Edge} {gd : Option (Nat × Bool)} {d : Tmp}

theorem JO_step {dst : Option Tmp} (hd : ∀ c, o ≠ .defer c) (hw : gw opl g gd = some true)
    (h : ∀ a w, Fits C g a → Sat C.W (l ++ C.fr) w → Oper.uponIn (FR C.r) 0 C.P ⟨dst, o, ty, pos, af, gd⟩ a (wpListIn (FR C.r) 0 C.P opl.toArray Q rest) Q ((execOp a.eval ⟨dst, o, ty, pos, af, gd⟩).run C.P w)) :
    JO C opl Q (⟨dst, o, ty, pos, af, gd⟩ :: rest) g l := by
  refine ⟨fun a w hf hs => ?_⟩
  refine wpListIn_step fun K hK => ?_
  rw [if_pos (gw_true (o := ⟨dst, o, ty, pos, af, gd⟩) hf hw)]
  refine Oper.wpIn_mono hK (wpIn_of_upon hd (h a w hf hs))
/-- An operation that its guard bars. -/
theorem JO_skip (hw : gw opl g gd = some false) (hN : Nat.blt d C.N = true) (k : JO C opl Q rest ((d, undef) :: g) l) : JO C opl Q (⟨some d, o, ty, pos, af, gd⟩ :: rest) g l := by
  refine ⟨fun a w hf hs => ?_⟩
  refine wpListIn_step fun K hK => ?_
  rw [gw_false (o := ⟨some d, o, ty, pos, af, gd⟩) hf hw]
  exact ⟨fun _ _ => trivial, hK _ _ (k.out _ _ (hf.put hN) hs)⟩
theorem JO_skip0 (hw : gw opl g gd = some false) (k : JO C opl Q rest g l) : JO C opl Q (⟨none, o, ty, pos, af, gd⟩ :: rest) g l := by
  refine ⟨fun a w hf hs => ?_⟩
  refine wpListIn_step fun K hK => ?_
  rw [gw_false (o := ⟨none, o, ty, pos, af, gd⟩) hf hw]
  exact ⟨fun _ _ => trivial, hK _ _ (k.out _ _ hf hs)⟩
theorem JO_val {v : Value} (h : OpV C g o v) (hw : gw opl g gd = some true) (hN : Nat.blt d C.N = true) (k : JO C opl Q rest ((d, v) :: g) l) : JO C opl Q (⟨some d, o, ty, pos, af, gd⟩ :: rest) g l :=
  JO_step h.1 hw fun a w hf hs => by rw [h.2 _ _ _ _ _ a w hf]; exact k.out _ _ (hf.put hN) hs
/-- An operation that leaves the memory alone. -/
theorem JO_v {v : Value} (h : pureOp C.ti g o = some v) (hw : gw opl g gd = some true) (hN : Nat.blt d C.N = true) (k : JO C opl Q rest ((d, v) :: g) l) : JO C opl Q (⟨some d, o, ty, pos, af, gd⟩ :: rest) g l :=
  JO_val (pureOp_sound h) hw hN k
/-- .. and comes to a number that is told otherwise. -/
theorem JO_i {n m : Int} {k : IntKind} (h : pureOp C.ti g o = some (.int k n)) (e : n = m) (hw : gw opl g gd = some true) (hN : Nat.blt d C.N = true) (k' : JO C opl Q rest ((d, .int k m) :: g) l) : JO C opl Q (⟨some d, o, ty, pos, af, gd⟩ :: rest) g l :=
  JO_v h hw hN (e ▸ k')
theorem JO_veq {v v' : Value} (h : pureOp C.ti g o = some v) (e : v = v') (hw : gw opl g gd = some true) (hN : Nat.blt d C.N = true) (k' : JO C opl Q rest ((d, v') :: g) l) : JO C opl Q (⟨some d, o, ty, pos, af, gd⟩ :: rest) g l :=
  JO_v h hw hN (e ▸ k')
/-- .. and comes to a Bool: both ways. -/
theorem JO_b {t : Bool} (h : pureOp C.ti g o = some (.bool t)) (hw : gw opl g gd = some true) (hN : Nat.blt d C.N = true) (k1 : t = true → JO C opl Q rest ((d, .bool true) :: g) l)
    (k2 : t = false → JO C opl Q rest ((d, .bool false) :: g) l) : JO C opl Q (⟨some d, o, ty, pos, af, gd⟩ :: rest) g l := by
  cases t
  · exact JO_v h hw hN (k2 rfl)
  · exact JO_v h hw hN (k1 rfl)

end rules

theorem wrap_id {n : Int} (h1 : -9223372036854775808 ≤ n) (h2 : n ≤ 9223372036854775807) : IntKind.wrap .i64 n = n := IntWalk.i64_in n ⟨h1, h2⟩

/-! ### Memory -/
/-- A list, its spine laid open. -/
def litL : List Value → Option (List Value)
  | [] => some []
  | x :: r => match litL r with
    | some r' => some (x :: r')
    | none => none
theorem litL_eq : ∀ {l l' : List Value}, litL l = some l' → l = l' := by
  intro l
  induction l with
  | nil => intro l' h; simp [litL] at h; exact h.symm
  | cons x r ih =>
    intro l' h
    simp only [litL] at h
    split at h
    · rename_i r' e; injection h with h; rw [← h, ih e]
    · cases h
def cellsL (v : Value) : Option (List Value) := litL v.cells.toList
/-- The n-th cell another one. -/
def put1 : List Value → Nat → Value → Option (List Value)
  | [], _, _ => none
  | _ :: r, 0, v => some (v :: r)
  | x :: r, n + 1, v => match put1 r n v with
    | some r' => some (x :: r')
    | none => none
theorem put1_eq : ∀ {cs : List Value} {n : Nat} {v : Value} {cs' : List Value}, put1 cs n v = some cs' → n < cs.length ∧ cs' = cs.set n v := by
  intro cs
  induction cs with
  | nil => intro n v cs' h; cases h
  | cons x r ih =>
    intro n v cs' h
    cases n with
    | zero => simp [put1] at h; subst h; simp
    | succ n =>
      simp only [put1] at h
      split at h
      · rename_i r' e; injection h with h; subst h; obtain ⟨h1, h2⟩ := ih e; subst h2; simp; omega
      · cases h
/-- Several cells, from a place on, others. -/
def putL : List Value → Nat → List Value → Option (List Value)
  | cs, _, [] => some cs
  | cs, o, v :: vs => match put1 cs o v with
    | some cs' => putL cs' (o + 1) vs
    | none => none
/-- A block that a Go variable, or a row of them, lies in. -/
def blk (b : Nat) (cs : List Value) (T : Nat) : HP := pt b (.cells cs.toArray T (0, 0))
def ptr (b o : Nat) : Value := .pointer (some ⟨b, o, none⟩)

theorem Sat.blk {W w : World} {l : List HP} {b : Nat} {cs : List Value} {T : Nat} (h : Sat W l w) (m : blk b cs T ∈ l) : w.heap[b]? = some (.cells cs.toArray T (0, 0)) := h.at m
theorem cell_of {w : World} {b : Nat} {cs : List Value} {T : Nat} (h : w.heap[b]? = some (.cells cs.toArray T (0, 0))) (o : Nat) : w.cell? ⟨b, o, none⟩ = cs[o]? := by
  simp [World.cell?, h]
theorem frozen_of {w : World} {b : Nat} {cs : List Value} {T : Nat} (h : w.heap[b]? = some (.cells cs.toArray T (0, 0))) (o : Nat) : w.frozen? ⟨b, o, none⟩ = false := by
  simp [World.frozen?, h]
theorem run_load {P : Program} {w : World} {a : Addr} {v : Value} (h : w.cell? a = some v) : (load a).run P w = .ok v w := by
  simp [load, Sem.run, h]
theorem run_loadCells {P : Program} {w : World} {b : Nat} {cs : List Value} {T : Nat} (h : w.heap[b]? = some (.cells cs.toArray T (0, 0))) (off : Nat) :
    ∀ (n i : Nat) (vs : List Value) (acc : Array Value), takeL cs (off + i) n = some vs → (loadCellsFrom ⟨b, off, none⟩ i n acc).run P w = .ok (acc ++ vs.toArray) w := by
  intro n
  induction n with
  | zero => intro i vs acc e; simp [takeL] at e; subst e; simp [loadCellsFrom, Pure.pure, Sem.run]
  | succ n ih =>
    intro i vs acc e
    simp only [takeL] at e
    split at e
    · rename_i v vs' h1 h2
      injection e with e
      subst e
      have hc : w.cell? ⟨b, off + i, none⟩ = some v := by rw [cell_of h]; exact h1
      simp only [loadCellsFrom, addr_add, Sem.run_bind, run_load hc, Result.andThen]
      rw [ih (i + 1) vs' _ (by rw [← h2]; rfl)]
      simp
    · cases e
theorem sizeAt_run {C : Ctx} {t n : Nat} (h : sizeAt C.ti t = some n) (w : World) : (sizeOf t).run C.P w = .ok n w := by
  unfold sizeAt at h
  split at h
  · rename_i hl; injection h with h; subst h; exact run_sizeOf w (C.ok.look hl)
  · cases h
theorem aggAt_run {C : Ctx} {t : Nat} {b : Bool} (h : aggAt C.ti t = some b) (w : World) : (isAgg t).run C.P w = .ok b w := by
  unfold aggAt at h
  split at h
  · rename_i hl; injection h with h; subst h; exact run_isAgg w (C.ok.look hl)
  · cases h
theorem run_storeCells {P : Program} : ∀ (vs : List Value) (w : World) (W : World) (l : List HP) (b off i T : Nat) (cs cs' : List Value), Sat W (blk b cs T :: l) w → (∀ v ∈ vs, (∀ c, v ≠ .agg c) ∧ ∀ c, v ≠ .tuple c) →
    putL cs (off + i) vs = some cs' → ∃ w', (storeCells ⟨b, off, none⟩ vs i).run P w = .ok () w' ∧ Sat W (blk b cs' T :: l) w' := by
  intro vs
  induction vs with
  | nil => intro w W l b off i T cs cs' hs _ e; simp [putL] at e; subst e; exact ⟨w, by simp [storeCells, Pure.pure, Sem.run], hs⟩
  | cons v vs ih =>
    intro w W l b off i T cs cs' hs hv e
    simp only [putL] at e
    split at e
    · rename_i c1 h1
      obtain ⟨hlt, rfl⟩ := put1_eq h1
      have hb := hs.blk (List.mem_cons_self ..)
      have hc : w.cell? ⟨b, off + i, none⟩ = some cs[off + i] := by rw [cell_of hb]; simp [hlt]
      have hst : (store ⟨b, off + i, none⟩ v).run P w = .ok () (w.setCell ⟨b, off + i, none⟩ v) := by
        obtain ⟨n1, n2⟩ := hv v (List.mem_cons_self ..)
        cases v <;> first | exact absurd rfl (n1 _) | exact absurd rfl (n2 _) | simp [store, Sem.run, hc, frozen_of hb]
      have hs' : Sat W (blk b (cs.set (off + i) v) T :: l) (w.setCell ⟨b, off + i, none⟩ v) := by
        have := Sat.setCell (off := off + i) hs v
        simpa [Sep.blk] using this
      obtain ⟨w', hr, hs''⟩ := ih _ W l b off (i + 1) T _ cs' hs' (fun v hv' => hv v (List.mem_cons_of_mem _ hv')) (by rw [← e]; rfl)
      refine ⟨w', ?_, hs''⟩
      simp only [storeCells, addr_add, Sem.run_bind, hst, Result.andThen]
      exact hr
    · cases e
/-- The values of one cell each. -/
def plainL : List Value → Bool
  | [] => true
  | .agg _ :: _ => false
  | .tuple _ :: _ => false
  | _ :: r => plainL r
theorem plainL_mem : ∀ {vs : List Value}, plainL vs = true → ∀ v ∈ vs, (∀ c, v ≠ .agg c) ∧ ∀ c, v ≠ .tuple c := by
  intro vs
  induction vs with
  | nil => intro _ v hv; cases hv
  | cons x r ih =>
    intro h v hv
    have hx : plainL r = true ∧ (∀ c, x ≠ .agg c) ∧ ∀ c, x ≠ .tuple c := by
      cases x <;> simp [plainL] at h <;> simp [h]
    rcases List.mem_cons.1 hv with rfl | hv
    · exact hx.2
    · exact ih hx.1 v hv


/-- The operation comes to v, and leaves the assertions. -/
structure OpQ (C : Ctx) (g : Regs) (l : List HP) (o : Op) (v : Value) : Prop where
  nd : ∀ c, o ≠ .defer c
  out : ∀ (dst : Option Tmp) (ty : TypeId) (pos : String) (af : Array Edge) (gd : Option (Nat × Bool)) (a : Act), Fits C g a → ∀ w, Sat C.W (l ++ C.fr) w →
    Oper.quietUpon C.P (Sat C.W (l ++ C.fr)) w v ((execOp a.eval ⟨dst, o, ty, pos, af, gd⟩).run C.P w)
/-- The operation comes to a value, and to assertions, of which R holds. -/
structure OpL (C : Ctx) (g : Regs) (l : List HP) (o : Op) (R : Value → List HP → Prop) : Prop where
  nd : ∀ c, o ≠ .defer c
  out : ∀ (dst : Option Tmp) (ty : TypeId) (pos : String) (af : Array Edge) (gd : Option (Nat × Bool)) (a : Act) (w : World), Fits C g a → Sat C.W (l ++ C.fr) w →
    ∀ (K : Act → World → Prop) (Q : Post), (∀ v l' w', R v l' → Sat C.W (l' ++ C.fr) w' → K (a.put dst v) w') →
      Oper.uponIn (FR C.r) 0 C.P ⟨dst, o, ty, pos, af, gd⟩ a K Q ((execOp a.eval ⟨dst, o, ty, pos, af, gd⟩).run C.P w)
theorem OpV.q {C : Ctx} {g : Regs} {l : List HP} {o : Op} {v : Value} (h : OpV C g o v) : OpQ C g l o v :=
  ⟨h.1, fun dst ty pos af gd a hf w hs => by rw [h.2 dst ty pos af gd a w hf]; exact ⟨rfl, rfl⟩⟩
theorem OpQ.l {C : Ctx} {g : Regs} {l : List HP} {o : Op} {v : Value} (h : OpQ C g l o v) : OpL C g l o (fun v' l' => v' = v ∧ l' = l) :=
  ⟨h.nd, fun dst ty pos af gd a w hf hs K Q k => by
    have h1 := h.out dst ty pos af gd a hf w hs
    generalize (execOp a.eval ⟨dst, o, ty, pos, af, gd⟩).run C.P w = res at *
    cases res with
    | ok n w' =>
      cases n <;> simp only [Oper.quietUpon] at h1 <;> simp only [Oper.uponIn]
      case value u => obtain ⟨e1, e2⟩ := h1; rw [e1, e2]; exact k _ _ _ ⟨rfl, rfl⟩ hs
      case skip => obtain ⟨e1, e2⟩ := h1; rw [e1, ← e2]; exact k _ _ _ ⟨rfl, rfl⟩ hs
      case enter f args =>
        obtain ⟨e1, hc⟩ := h1
        rw [e1]
        refine ⟨fun h => (by cases h), (callsIn_wide (n := 0 - 1)).2 (hc.mono fun e w'' ⟨he, hw''⟩ => ?_)⟩
        subst he
        exact k _ _ _ ⟨rfl, rfl⟩ hw''
    | halt x w' => simp only [Oper.quietUpon] at h1⟩
section steps
variable {C : Ctx} {opl : List Oper} {Q : Post} {rest : List Oper} {g : Regs} {l : List HP} {o : Op} {ty : TypeId} {pos : String} {af : Array Edge} {gd : Option (Nat × Bool)} {d : Tmp}
theorem JO_l {R : Value → List HP → Prop} (h : OpL C g l o R) (hw : gw opl g gd = some true) (hN : Nat.blt d C.N = true) (k : ∀ v l', R v l' → JO C opl Q rest ((d, v) :: g) l') : JO C opl Q (⟨some d, o, ty, pos, af, gd⟩ :: rest) g l :=
  JO_step h.nd hw fun a w hf hs => h.out _ _ _ _ _ a w hf hs _ _ fun v l' w' hr hs' => (k v l' hr).out _ _ (hf.put hN) hs'
theorem JO_l0 {R : Value → List HP → Prop} (h : OpL C g l o R) (hw : gw opl g gd = some true) (k : ∀ v l', R v l' → JO C opl Q rest g l') : JO C opl Q (⟨none, o, ty, pos, af, gd⟩ :: rest) g l :=
  JO_step h.nd hw fun a w hf hs => h.out _ _ _ _ _ a w hf hs _ _ fun v l' w' hr hs' => (k v l' hr).out _ _ hf hs'
theorem JO_q {v : Value} (h : OpQ C g l o v) (hw : gw opl g gd = some true) (hN : Nat.blt d C.N = true) (k : JO C opl Q rest ((d, v) :: g) l) : JO C opl Q (⟨some d, o, ty, pos, af, gd⟩ :: rest) g l :=
  JO_l h.l hw hN (by rintro _ _ ⟨rfl, rfl⟩; exact k)
end steps

section mem
variable {C : Ctx} {opl : List Oper} {Q : Post} {rest : List Oper} {g : Regs} {l : List HP} {ty : TypeId} {pos : String} {af : Array Edge} {gd : Option (Nat × Bool)} {d : Tmp}

/-! a Bool that is moved (a guard's): decided, or both ways -/
theorem JO_mt {x : Operand} {φ : Prop} [Decidable φ] (h : ev g x = some (.bool (decide φ))) (e : φ) (hw : gw opl g gd = some true) (hN : Nat.blt d C.N = true) (k : JO C opl Q rest ((d, .bool true) :: g) l) : JO C opl Q (⟨some d, .move x, ty, pos, af, gd⟩ :: rest) g l :=
  JO_v (v := .bool true) (by show ev g x = _; simpa [e] using h) hw hN k
theorem JO_mf {x : Operand} {φ : Prop} [Decidable φ] (h : ev g x = some (.bool (decide φ))) (e : ¬ φ) (hw : gw opl g gd = some true) (hN : Nat.blt d C.N = true) (k : JO C opl Q rest ((d, .bool false) :: g) l) : JO C opl Q (⟨some d, .move x, ty, pos, af, gd⟩ :: rest) g l :=
  JO_v (v := .bool false) (by show ev g x = _; simpa [e] using h) hw hN k
theorem JO_mb {x : Operand} {φ : Prop} [Decidable φ] (h : ev g x = some (.bool (decide φ))) (hw : gw opl g gd = some true) (hN : Nat.blt d C.N = true) (k1 : φ → JO C opl Q rest ((d, .bool true) :: g) l) (k2 : ¬ φ → JO C opl Q rest ((d, .bool false) :: g) l) : JO C opl Q (⟨some d, .move x, ty, pos, af, gd⟩ :: rest) g l := by
  by_cases e : φ
  · exact JO_mt h e hw hN (k1 e)
  · exact JO_mf h e hw hN (k2 e)
theorem JO_nt {x : Operand} {φ : Prop} [Decidable φ] (h : ev g x = some (.bool (!decide φ))) (e : ¬ φ) (hw : gw opl g gd = some true) (hN : Nat.blt d C.N = true) (k : JO C opl Q rest ((d, .bool true) :: g) l) : JO C opl Q (⟨some d, .move x, ty, pos, af, gd⟩ :: rest) g l :=
  JO_v (v := .bool true) (by show ev g x = _; simpa [e] using h) hw hN k
theorem JO_nf {x : Operand} {φ : Prop} [Decidable φ] (h : ev g x = some (.bool (!decide φ))) (e : φ) (hw : gw opl g gd = some true) (hN : Nat.blt d C.N = true) (k : JO C opl Q rest ((d, .bool false) :: g) l) : JO C opl Q (⟨some d, .move x, ty, pos, af, gd⟩ :: rest) g l :=
  JO_v (v := .bool false) (by show ev g x = _; simpa [e] using h) hw hN k
theorem JO_nb {x : Operand} {φ : Prop} [Decidable φ] (h : ev g x = some (.bool (!decide φ))) (hw : gw opl g gd = some true) (hN : Nat.blt d C.N = true) (k1 : ¬ φ → JO C opl Q rest ((d, .bool true) :: g) l) (k2 : φ → JO C opl Q rest ((d, .bool false) :: g) l) : JO C opl Q (⟨some d, .move x, ty, pos, af, gd⟩ :: rest) g l := by
  by_cases e : φ
  · exact JO_nf h e hw hN (k2 e)
  · exact JO_nt h e hw hN (k1 e)
/-- A Bool literal that is moved. -/
theorem JO_ml {x : Operand} {t : Bool} (h : ev g x = some (.bool t)) {t' : Bool} (e : t = t') (hw : gw opl g gd = some true) (hN : Nat.blt d C.N = true) (k : JO C opl Q rest ((d, .bool t') :: g) l) : JO C opl Q (⟨some d, .move x, ty, pos, af, gd⟩ :: rest) g l :=
  JO_v (v := .bool t') (by rw [← e]; exact h) hw hN k
section cond
variable {x y : Code} {c : Operand}
theorem J_ct {φ : Prop} [Decidable φ] (h : ev g c = some (.bool (decide φ))) (e : φ) (k : J C x Q g l) : J C (.cond c x y) Q g l := J_cond_t (by simpa [e] using h) k
theorem J_cf {φ : Prop} [Decidable φ] (h : ev g c = some (.bool (decide φ))) (e : ¬ φ) (k : J C y Q g l) : J C (.cond c x y) Q g l := J_cond_f (by simpa [e] using h) k
theorem J_cb {φ : Prop} [Decidable φ] (h : ev g c = some (.bool (decide φ))) (k1 : φ → J C x Q g l) (k2 : ¬ φ → J C y Q g l) : J C (.cond c x y) Q g l := by
  by_cases e : φ
  · exact J_ct h e (k1 e)
  · exact J_cf h e (k2 e)
theorem J_nt {φ : Prop} [Decidable φ] (h : ev g c = some (.bool (!decide φ))) (e : ¬ φ) (k : J C x Q g l) : J C (.cond c x y) Q g l := J_cond_t (by simpa [e] using h) k
theorem J_nf {φ : Prop} [Decidable φ] (h : ev g c = some (.bool (!decide φ))) (e : φ) (k : J C y Q g l) : J C (.cond c x y) Q g l := J_cond_f (by simpa [e] using h) k
theorem J_nb {φ : Prop} [Decidable φ] (h : ev g c = some (.bool (!decide φ))) (k1 : ¬ φ → J C x Q g l) (k2 : φ → J C y Q g l) : J C (.cond c x y) Q g l := by
  by_cases e : φ
  · exact J_nf h e (k2 e)
  · exact J_nt h e (k1 e)
end cond
end mem
end Go.Sep
