/-
  Our own, over any program: operations that read and write memory.
-/
import Derived.Test.YtchanmljjfcplaaJe
set_option linter.unusedSimpArgs false
set_option linter.unusedVariables false
namespace Go.Sep
open Go.RowKit

section ops
variable {C : Ctx} {g : Regs} {l : List HP}

theorem OL_box {T : Nat} {x : Operand} {v : Value} {cs : List Value} (hx : ev g x = some v) (hc : cellsL v = some cs) : OpL C g l (.box T x) (fun v l' => ∃ b, v = ptr b 0 ∧ l' = blk b cs T :: l) :=
  ⟨(by intro c h; cases h), fun dst ty pos af gd a w hf hs K Q k => by
    have e : v.cells = cs.toArray := by rw [← litL_eq hc]
    simp only [execOp, hf.ev hx, Instr.box, newVar, newRow, newObj, Sem.run_bind, Sem.run, Result.andThen, Pure.pure, e, Oper.uponIn]
    exact k _ _ _ ⟨w.heap.size, rfl, rfl⟩ (hs.alloc _)⟩
theorem OL_alloc {T : Nat} {i : TyI} {cs : List Value} (ht : look C.ti T = some i) (hc : litL i.zero = some cs) : OpL C g l (.alloc T) (fun v l' => ∃ b, v = ptr b 0 ∧ l' = blk b cs T :: l) :=
  ⟨(by intro c h; cases h), fun dst ty pos af gd a w hf hs K Q k => by
    obtain ⟨z, hz, ez⟩ := run_zero w (C.ok.look ht)
    have e : z.cells = cs.toArray := by rw [← litL_eq hc, ← ez]
    simp only [execOp, Instr.alloc, Sem.run_bind, hz, newVar, newRow, newObj, Sem.run, Result.andThen, Pure.pure, e, Oper.uponIn]
    exact k _ _ _ ⟨w.heap.size, rfl, rfl⟩ (hs.alloc _)⟩
theorem OQ_load {T b o T' : Nat} {x : Operand} {cs : List Value} {v : Value} (hx : ev g x = some (ptr b o)) (ha : aggAt C.ti T = some false) (m : blk b cs T' ∈ l) (hc : cs[o]? = some v) : OpQ C g l (.load T x) v :=
  ⟨(by intro c h; cases h), fun dst ty pos af gd a hf w hs => by
    have hb := hs.blk (List.mem_append_left _ m)
    have hl : (load ⟨b, o, none⟩).run C.P w = .ok v w := run_load (by rw [cell_of hb]; exact hc)
    simp only [execOp, hf.ev hx, ptr, Instr.loadAt, Instr.sureAddr, loadVar, Sem.run_bind, Sem.run, Result.andThen, Pure.pure, aggAt_run ha w, Bool.false_eq_true, if_false, hl, Oper.quietUpon, and_self]⟩
theorem OQ_loadA {T b o T' n : Nat} {x : Operand} {cs vs : List Value} (hx : ev g x = some (ptr b o)) (ha : aggAt C.ti T = some true) (hn : sizeAt C.ti T = some n) (m : blk b cs T' ∈ l) (hc : takeL cs o n = some vs) : OpQ C g l (.load T x) (.agg vs.toArray) :=
  ⟨(by intro c h; cases h), fun dst ty pos af gd a hf w hs => by
    have hb := hs.blk (List.mem_append_left _ m)
    have hl : (loadCells ⟨b, o, none⟩ n).run C.P w = .ok vs.toArray w := by
      have := run_loadCells (P := C.P) hb o n 0 vs #[] hc
      simpa [loadCells] using this
    simp only [execOp, hf.ev hx, ptr, Instr.loadAt, Instr.sureAddr, loadVar, Sem.run_bind, Sem.run, Result.andThen, Pure.pure, aggAt_run ha w, if_true, sizeAt_run hn w, hl, Oper.quietUpon, and_self]⟩
/-- A cell of a block that lay there from the first. -/
theorem OQ_low {T : Nat} {W' : World} {p : Addr} {x : Operand} {v : Value} (hx : ev g x = some (.pointer (some p))) (ha : aggAt C.ti T = some false) (m : Low W' ∈ l) (hp : p.block < W'.heap.size) (hc : W'.cell? p = some v) : OpQ C g l (.load T x) v :=
  ⟨(by intro c h; cases h), fun dst ty pos af gd a hf w hs => by
    have hb := hs.low (List.mem_append_left _ m) hp
    have hl : (load p).run C.P w = .ok v w := run_load ((World.cell?_of_block (w := W') hb).trans hc)
    simp only [execOp, hf.ev hx, Instr.loadAt, Instr.sureAddr, loadVar, Sem.run_bind, Sem.run, Result.andThen, Pure.pure, aggAt_run ha w, Bool.false_eq_true, if_false, hl, Oper.quietUpon, and_self]⟩
theorem run_loadCells_of {P : Program} {w : World} {b off : Nat} : ∀ (n i : Nat) (vs : List Value) (acc : Array Value), vs.length = n → (∀ j, j < n → w.cell? ⟨b, off + (i + j), none⟩ = vs[j]?) →
    (loadCellsFrom ⟨b, off, none⟩ i n acc).run P w = .ok (acc ++ vs.toArray) w := by
  intro n
  induction n with
  | zero => intro i vs acc hl _; have : vs = [] := List.eq_nil_of_length_eq_zero hl; subst this; simp [loadCellsFrom, Pure.pure, Sem.run]
  | succ n ih =>
    intro i vs acc hl hc
    cases vs with
    | nil => cases hl
    | cons v vs =>
      have h0 : w.cell? ⟨b, off + i, none⟩ = some v := by have := hc 0 (by omega); simpa using this
      simp only [loadCellsFrom, addr_add, Sem.run_bind, run_load h0, Result.andThen]
      rw [ih (i + 1) vs _ (by simpa using hl) (fun j hj => by have := hc (j + 1) (by omega); rw [show off + (i + 1 + j) = off + (i + (j + 1)) by omega]; simpa using this)]
      simp
theorem OQ_lowA {T : Nat} {W' : World} {b o n : Nat} {x : Operand} {vs : List Value} (hx : ev g x = some (ptr b o)) (ha : aggAt C.ti T = some true) (hn : sizeAt C.ti T = some n) (m : Low W' ∈ l) (hp : b < W'.heap.size) (hl : vs.length = n)
    (hc : ∀ j, j < n → W'.cell? ⟨b, o + j, none⟩ = vs[j]?) : OpQ C g l (.load T x) (.agg vs.toArray) :=
  ⟨(by intro c h; cases h), fun dst ty pos af gd a hf w hs => by
    have hb := hs.low (List.mem_append_left _ m) hp
    have hl : (loadCells ⟨b, o, none⟩ n).run C.P w = .ok vs.toArray w := by
      have := run_loadCells_of (P := C.P) (w := w) (b := b) (off := o) n 0 vs #[] hl (fun j hj => by rw [show o + (0 + j) = o + j by omega, ← hc j hj]; exact World.cell?_of_block (w := W') hb)
      simpa [loadCells] using this
    simp only [execOp, hf.ev hx, ptr, Instr.loadAt, Instr.sureAddr, loadVar, Sem.run_bind, Sem.run, Result.andThen, Pure.pure, aggAt_run ha w, if_true, sizeAt_run hn w, hl, Oper.quietUpon, and_self]⟩
/-- A store whose cells are told. -/
theorem OL_store {T b o T' i n : Nat} {x y : Operand} {cs cs' vs : List Value} {v : Value} {r : List HP} (hx : ev g x = some (ptr b o)) (hy : ev g y = some v) (hv : cellsL v = some vs) (hn : sizeAt C.ti T = some n) (hl : vs.length = n) (hp : plainL vs = true)
    (m : pick1 l i = some (blk b cs T', r)) (hc : putL cs o vs = some cs') : OpL C g l (.store T x y) (fun _ l' => l' = blk b cs' T' :: r) :=
  ⟨(by intro c h; cases h), fun dst ty pos af gd a w hf hs K Q k => by
    have hs' : Sat C.W (blk b cs T' :: (r ++ C.fr)) w := hs.perm ((pick1_perm m).append_right _)
    have e : v.cells.toList = vs := litL_eq hv
    obtain ⟨w', hr, hs''⟩ := run_storeCells (P := C.P) vs w C.W _ b o 0 T' cs cs' hs' (plainL_mem hp) hc
    have hsz : v.cells.size = n := by rw [← hl, ← e]; simp
    simp only [execOp, hf.ev hx, hf.ev hy, ptr, Instr.storeAt, Instr.sureAddr, storeVar, Sem.run_bind, Sem.run, Result.andThen, Pure.pure, sizeAt_run hn w, hsz, ne_eq, not_true_eq_false, if_false, e, hr, Oper.uponIn]
    exact k _ _ _ rfl hs''⟩
theorem put1_set {cs : List Value} {n : Nat} {v : Value} (h : n < cs.length) : put1 cs n v = some (cs.set n v) := by
  induction cs generalizing n with
  | nil => cases h
  | cons x r ih =>
    cases n with
    | zero => rfl
    | succ n => simp only [put1, ih (Nat.lt_of_succ_lt_succ h), List.set]
/-- A call of a function that has its contract. -/
theorem OL_call {x : Operand} {args : Array Operand} {ts : Array TypeId} {f : FuncId} {fi ca : Array Value} {vas full : List Value} {pre r : List HP} {post : Value → List HP → Prop} (is : List Nat)
    (hx : ev g x = some (.func (.func f) fi ca)) (ha : evs g args.toList = some vas) (hl : litL (fi.toList ++ (vas ++ ca.toList)) = some full) (hs : Does C.P f full pre post) (hp : picks l is = some (pre, r)) :
    OpL C g l (.call { callee := .value x, args := args, argTypes := ts }) (fun v l' => ∃ l1, post v l1 ∧ l' = l1 ++ r) :=
  ⟨(by intro c h; cases h), fun dst ty pos af gd a w hf hsat K Q k => by
    have e1 : args.map a.eval = vas.toArray := arr_of (hf.evs ha)
    have e2 : fi ++ vas.toArray ++ ca = full.toArray := by
      rw [← litL_eq hl]; apply Array.ext'; simp
    have hs' : Sat C.W (pre ++ (r ++ C.fr)) w := (hsat.perm ((picks_perm hp).append_right _)).perm (by rw [List.append_assoc])
    simp only [execOp, resolve, e1, hf.ev hx, Deferred.ofValue, Sem.run_bind, Sem.run, Result.andThen, Pure.pure, invoke, e2]
    rw [hs.1 full.toArray w]
    refine ⟨fun h => (by cases h), (callsIn_wide (n := 0 - 1)).2 ((hs.2 C.W (r ++ C.fr) w hs').mono ?_)⟩
    rintro e w' ⟨v, l', rfl, hpost, hsat'⟩
    exact k _ _ _ ⟨l', hpost, rfl⟩ (hsat'.perm (by rw [List.append_assoc]))⟩
/-- .. that tells a known value, and leaves the assertions. -/
theorem OQ_call {x : Operand} {args : Array Operand} {ts : Array TypeId} {f : FuncId} {fi ca : Array Value} {vas full : List Value} {pre r : List HP} {v : Value} {post : Value → List HP → Prop} (is : List Nat)
    (hx : ev g x = some (.func (.func f) fi ca)) (ha : evs g args.toList = some vas) (hl : litL (fi.toList ++ (vas ++ ca.toList)) = some full) (hs : Does C.P f full pre post) (hp : picks l is = some (pre, r))
    (hpost : ∀ v' l', post v' l' → v' = v ∧ ∀ H, Stars l' H → Stars pre H) :
    OpQ C g l (.call { callee := .value x, args := args, argTypes := ts }) v :=
  ⟨(by intro c h; cases h), fun dst ty pos af gd a hf w hsat => by
    have e1 : args.map a.eval = vas.toArray := arr_of (hf.evs ha)
    have e2 : fi ++ vas.toArray ++ ca = full.toArray := by
      rw [← litL_eq hl]; apply Array.ext'; simp
    have hperm := ((picks_perm hp).append_right C.fr)
    have hs' : Sat C.W (pre ++ (r ++ C.fr)) w := (hsat.perm hperm).perm (by rw [List.append_assoc])
    simp only [execOp, resolve, e1, hf.ev hx, Deferred.ofValue, Sem.run_bind, Sem.run, Result.andThen, Pure.pure, invoke, e2]
    rw [hs.1 full.toArray w]
    refine ⟨rfl, (hs.2 C.W (r ++ C.fr) w hs').mono ?_⟩
    rintro e w' ⟨v', l', rfl, hp', hsat'⟩
    obtain ⟨rfl, hl'⟩ := hpost v' l' hp'
    exact ⟨rfl, (hsat'.lift hl').perm ((List.append_assoc _ _ _ ▸ hperm.symm))⟩⟩
/-- An element's address. -/
theorem OV_idx {T e sz b o n cap off : Nat} {k : IntKind} {m : Int} {x y : Operand} {s1 s2 : Nat} {z : List Value} (ht : look C.ti T = some ⟨.slice e, s1, s2, z⟩) (hsz : sizeAt C.ti e = some sz) (hx : ev g x = some (.slice (some ⟨b, o, none⟩) n cap)) (hy : ev g y = some (.int k m))
    (h0 : 0 ≤ m) (h1 : m < n) (he : o + m.toNat * sz = off) : OpV C g (.indexAddr T x y) (ptr b off) := by
  refine ⟨(by intro c h; cases h), fun d ty pos af gd a w hf => ?_⟩
  subst he
  have hu := run_underlying (und_slice (C.ok.look ht) rfl) w
  have hz : (sizeOf e).run C.P w = .ok sz w := sizeAt_run hsz w
  have hcond : 0 ≤ m ∧ m < (n : Int) := ⟨h0, h1⟩
  simp only [execOp, hf.ev hx, hf.ev hy, Instr.indexAt, asIntOf, Sem.run_bind, Sem.run, Result.andThen, Pure.pure, hu, hcond, and_self, if_true, hz, addr_add, ptr]
theorem OV_idxA {T e sz len b o off : Nat} {k : IntKind} {m : Int} {x y : Operand} {s1 s2 : Nat} {z : List Value} (ht : look C.ti T = some ⟨.array len e, s1, s2, z⟩) (hsz : sizeAt C.ti e = some sz) (hx : ev g x = some (ptr b o)) (hy : ev g y = some (.int k m))
    (h0 : 0 ≤ m) (h1 : m < len) (he : o + m.toNat * sz = off) : OpV C g (.indexAddr T x y) (ptr b off) := by
  refine ⟨(by intro c h; cases h), fun d ty pos af gd a w hf => ?_⟩
  subst he
  have hu := run_underlying (und_array (C.ok.look ht) rfl) w
  have hz : (sizeOf e).run C.P w = .ok sz w := sizeAt_run hsz w
  have hcond : 0 ≤ m ∧ m < (len : Int) := ⟨h0, h1⟩
  simp only [execOp, hf.ev hx, hf.ev hy, ptr, Instr.indexAt, asIntOf, Instr.sureAddr, Sem.run_bind, Sem.run, Result.andThen, Pure.pure, hu, hcond, and_self, if_true, hz, addr_add]
theorem OV_add {t t' : TypeId} {x y : Operand} {m n : Int} (hx : ev g x = some (.int .i64 m)) (hy : ev g y = some (.int .i64 n)) (h1 : -9223372036854775808 ≤ m + n) (h2 : m + n ≤ 9223372036854775807) : OpV C g (.binOp .add t x y t') (.int .i64 (m + n)) :=
  pureOp_sound (by simp only [pureOp, hx, hy, binV, wrap_id h1 h2])
theorem OV_sub {t t' : TypeId} {x y : Operand} {m n : Int} (hx : ev g x = some (.int .i64 m)) (hy : ev g y = some (.int .i64 n)) (h1 : -9223372036854775808 ≤ m - n) (h2 : m - n ≤ 9223372036854775807) : OpV C g (.binOp .sub t x y t') (.int .i64 (m - n)) :=
  pureOp_sound (by simp only [pureOp, hx, hy, binV, wrap_id h1 h2])
theorem OV_mul {t t' : TypeId} {x y : Operand} {m n : Int} (hx : ev g x = some (.int .i64 m)) (hy : ev g y = some (.int .i64 n)) (h1 : -9223372036854775808 ≤ m * n) (h2 : m * n ≤ 9223372036854775807) : OpV C g (.binOp .mul t x y t') (.int .i64 (m * n)) :=
  pureOp_sound (by simp only [pureOp, hx, hy, binV, wrap_id h1 h2])
theorem OV_quo {t t' : TypeId} {x y : Operand} {m n : Int} (hx : ev g x = some (.int .i64 m)) (hy : ev g y = some (.int .i64 n)) (h0 : 0 ≤ m) (h1 : 0 < n) (h2 : m ≤ 9223372036854775807) : OpV C g (.binOp .quo t x y t') (.int .i64 (m / n)) := by
  refine ⟨(by intro c h; cases h), fun d ty pos af gd a w hf => ?_⟩
  have hne : n ≠ 0 := by omega
  have hb : (binOp .quo t (.int .i64 m) (.int .i64 n)).run C.P w = .ok (.int .i64 (m / n)) w := by
    have hd : m.tdiv n = m / n := Int.tdiv_eq_ediv_of_nonneg h0
    have h3 : 0 ≤ m / n := Int.ediv_nonneg h0 (by omega)
    have h4 : m / n ≤ m := Int.ediv_le_self _ h0
    simp only [binOp, Op.intDiv, hne, if_false, ne_eq, not_true_eq_false, hd, wrap_id (by omega : -9223372036854775808 ≤ m / n) (by omega)]
    rfl
  simp only [execOp, hf.ev hx, hf.ev hy]
  rw [Sem.run_bind, run_guarded hb]
  rfl
theorem OV_rem {t t' : TypeId} {x y : Operand} {m n : Int} (hx : ev g x = some (.int .i64 m)) (hy : ev g y = some (.int .i64 n)) (h0 : 0 ≤ m) (h1 : 0 < n) : OpV C g (.binOp .rem t x y t') (.int .i64 (m % n)) := by
  refine ⟨(by intro c h; cases h), fun d ty pos af gd a w hf => ?_⟩
  have hne : n ≠ 0 := by omega
  have hb : (binOp .rem t (.int .i64 m) (.int .i64 n)).run C.P w = .ok (.int .i64 (m % n)) w := by
    have hd : m.tmod n = m % n := Int.tmod_eq_emod_of_nonneg h0
    simp only [binOp, Op.intDiv, hne, if_false, ne_eq, not_true_eq_false, hd]
    rfl
  simp only [execOp, hf.ev hx, hf.ev hy]
  rw [Sem.run_bind, run_guarded hb]
  rfl
theorem OV_conv {s t : Nat} {x : Operand} {k' : IntKind} {n : Int} {i : TyI} {s1 s2 : Nat} {z : List Value} (h1 : look C.ti s = some i) (h2 : look C.ti t = some ⟨.int .i64, s1, s2, z⟩) (hx : ev g x = some (.int k' n)) (h3 : -9223372036854775808 ≤ n) (h4 : n ≤ 9223372036854775807) :
    OpV C g (.convert s t x) (.int .i64 n) :=
  pureOp_sound (by simp only [pureOp, h1, h2, hx, wrap_id h3 h4])
end ops

/-! ### Structs that are built -/
def placesL (ti : TIs) : List (Nat × Nat) → Option (List (Nat × Nat))
  | [] => some []
  | (off, ft) :: r => match sizeAt ti ft, placesL ti r with
    | some sz, some r' => some ((off, sz) :: r')
    | _, _ => none
def fillL (pl : List (Nat × Nat)) : List Value → List (Nat × Value) → Option (List Value)
  | cs, [] => some cs
  | cs, (i, v) :: rest => match nth pl i, cellsL v with
    | some (off, sz), some vs => match Nat.beq vs.length sz && !Nat.beq sz 0, putL cs off vs with
      | true, some cs' => fillL pl cs' rest
      | _, _ => none
    | _, _ => none
def evP (g : Regs) : List (Nat × Operand) → Option (List (Nat × Value))
  | [] => some []
  | (i, x) :: r => match ev g x, evP g r with
    | some v, some vs => some ((i, v) :: vs)
    | _, _ => none
theorem Fits.evP {C : Ctx} {g : Regs} {a : Act} (h : Fits C g a) : ∀ {xs : List (Nat × Operand)} {vs : List (Nat × Value)}, evP g xs = some vs → xs.map (fun (i, x) => (i, a.eval x)) = vs := by
  intro xs
  induction xs with
  | nil => intro vs e; simp [Sep.evP] at e; subst e; rfl
  | cons p xs ih =>
    obtain ⟨i, x⟩ := p
    intro vs e
    simp only [Sep.evP] at e
    split at e
    · rename_i v us h1 h2
      injection e with e
      subst e
      simp [h.ev h1]
      simpa using ih h2
    · cases e
theorem putL_fold : ∀ {vs cs cs' : List Value} {off k : Nat}, putL cs (off + k) vs = some cs' →
    (off + k + vs.length ≤ cs.length ∨ vs = []) ∧ cs'.length = cs.length ∧ (vs.zipIdx k).foldl (fun (acc : Array Value) (x : Value × Nat) => acc.setIfInBounds (off + x.2) x.1) cs.toArray = cs'.toArray := by
  intro vs
  induction vs with
  | nil => intro cs cs' off k h; simp [putL] at h; subst h; simp
  | cons v vs ih =>
    intro cs cs' off k h
    simp only [putL] at h
    split at h
    · rename_i c1 h1
      obtain ⟨hlt, rfl⟩ := put1_eq h1
      have h' : putL (cs.set (off + k) v) (off + (k + 1)) vs = some cs' := h
      obtain ⟨a1, a2, a3⟩ := ih h'
      refine ⟨.inl ?_, by simpa using a2, ?_⟩
      · rcases a1 with a1 | rfl
        · simp at a1 ⊢; omega
        · simp; omega
      · simp only [List.zipIdx_cons, List.foldl_cons]
        rw [← a3]
        simp
    · cases h
theorem fillL_fill {pl : List (Nat × Nat)} : ∀ {parts : List (Nat × Value)} {cs cs' : List Value}, fillL pl cs parts = some cs' → Instr.fill (pl.toArray[·]?) cs.toArray parts = some cs'.toArray := by
  intro parts
  induction parts with
  | nil => intro cs cs' h; simp [fillL] at h; subst h; rfl
  | cons p parts ih =>
    obtain ⟨i, v⟩ := p
    intro cs cs' h
    simp only [fillL] at h
    split at h
    · rename_i off sz vs h1 h2
      split at h
      · rename_i c1 h4 h5
        have e : v.cells.toList = vs := litL_eq h2
        simp only [Bool.and_eq_true, Bool.not_eq_true'] at h4
        have hlen : v.cells.size = sz := by rw [← Nat.eq_of_beq_eq_true h4.1, ← e]; simp
        have hsz : sz ≠ 0 := fun x => by subst x; simp at h4
        obtain ⟨b1, b2, b3⟩ := putL_fold (k := 0) h5
        have hfold : v.cells.zipIdx.foldl (fun cs (x : Value × Nat) => cs.setIfInBounds (off + x.2) x.1) cs.toArray = c1.toArray := by
          rw [← b3, ← e, ← Array.foldl_toList, Array.toList_zipIdx]
        have hpl : pl.toArray[i]? = some (off, sz) := by rw [List.getElem?_toArray, ← nth_eq]; exact h1
        simp only [Instr.fill, hpl]
        have hle : (v.cells.size ≠ sz ∨ off + v.cells.size > cs.toArray.size) = False := by
          apply eq_false
          intro hh
          rcases hh with hh | hh
          · exact hh hlen
          · rcases b1 with b1 | b1
            · rw [← e] at b1; simp at b1 hh; omega
            · have : v.cells.size = 0 := by rw [← Array.length_toList, e, b1]; rfl
              omega
        simp only [Bool.or_eq_true, decide_eq_true_eq]
        rw [if_neg (by simpa using hle), hfold]
        exact ih h
      · cases h
    · cases h
theorem run_placesL {C : Ctx} (w : World) : ∀ {fs : List Field} {pl : List (Nat × Nat)}, placesL C.ti (fs.map fun f => (f.offset, f.type)) = some pl →
    (fs.mapM fun f => (do Pure.pure (f.offset, ← sizeOf f.type) : Sem (Nat × Nat))).run C.P w = .ok pl w := by
  intro fs
  induction fs with
  | nil => intro pl h; simp [placesL] at h; subst h; rfl
  | cons f fs ih =>
    intro pl h
    simp only [List.map_cons, placesL] at h
    split at h
    · rename_i sz pl' h1 h2
      injection h with h
      subst h
      have hf : (do Pure.pure (f.offset, ← sizeOf f.type) : Sem (Nat × Nat)).run C.P w = .ok (f.offset, sz) w := by
        rw [Sem.run_bind, sizeAt_run h1 w]; rfl
      rw [List.mapM_cons, Sem.run_bind, hf]
      simp only [Result.andThen]
      rw [Sem.run_bind, ih h2]
      rfl
    · cases h
theorem OV_build {C : Ctx} {g : Regs} {T s1 s2 : Nat} {parts : Array (Nat × Operand)} {fs pl : List (Nat × Nat)} {ps : List (Nat × Value)} {z cs : List Value} (ht : look C.ti T = some ⟨.struct fs, s1, s2, z⟩) (hpl : placesL C.ti fs = some pl)
    (hp : evP g parts.toList = some ps) (hf : fillL pl z ps = some cs) : OpV C g (.build T parts) (.agg cs.toArray) := by
  refine ⟨(by intro c h; cases h), fun d ty pos af gd a w hfit => ?_⟩
  obtain ⟨gs, hu, hgs⟩ := und_struct (C.ok.look ht) rfl
  obtain ⟨zv, hz, ez⟩ := run_zero w (C.ok.look ht)
  have e : zv.cells = z.toArray := by
    have ez' : zv.cells.toList = z := ez
    rw [← ez']
  have e2 : (parts.map fun (i, x) => (i, a.eval x)) = ps.toArray := by
    have := hfit.evP hp
    rw [← this]; apply Array.ext'; simp
  have hrun : (Instr.build T ps.toArray).run C.P w = .ok (.agg cs.toArray) w := by
    have hpl' := run_placesL (C := C) w (fs := gs.toList) (by rw [hgs]; exact hpl)
    simp only [Instr.build, Sem.run_bind, hz, Result.andThen, run_underlying hu w, Array.mapM_eq_mapM_toList, e]
    rw [Sem.run_map, hpl']
    simp only [Result.andThen, fillL_fill hf]
    rfl
  simp only [execOp, e2]
  rw [Sem.run_bind, hrun]
  rfl
end Go.Sep
