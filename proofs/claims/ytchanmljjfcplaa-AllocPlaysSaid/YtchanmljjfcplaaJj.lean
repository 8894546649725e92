/-
  Our own, over any program: slices that are built; what can be read as a slice, whoever owns it.
-/
import Derived.Test.YtchanmljjfcplaaJi
set_option linter.unusedSimpArgs false
set_option linter.unusedVariables false
namespace Go.Sep
open Go.RowKit

theorem fill_mono {f f' : Nat → Option (Nat × Nat)} (h : ∀ i v, f i = some v → f' i = some v) : ∀ {parts : List (Nat × Value)} {cells r : Array Value}, Instr.fill f cells parts = some r → Instr.fill f' cells parts = some r := by
  intro parts
  induction parts with
  | nil => intro cells r e; exact e
  | cons p parts ih =>
    obtain ⟨i, v⟩ := p
    intro cells r e
    simp only [Instr.fill] at e ⊢
    split at e
    · cases e
    · rename_i off size hp
      rw [h _ _ hp]
      simp only
      split at e
      · cases e
      · rename_i hc
        rw [if_neg hc]
        exact ih e
section ops
variable {C : Ctx} {g : Regs} {l : List HP}
theorem OL_buildSlice {T e s1 s2 by_ sz len : Nat} {d : TD} {z ze zs cs : List Value} {pl : List (Nat × Nat)} {parts : Array (Nat × Operand)} {ps : List (Nat × Value)} (ht : look C.ti T = some ⟨.slice e, s1, s2, z⟩) (he : look C.ti e = some ⟨d, sz, by_, ze⟩)
    (hsmall : Nat.ble (len * sz) 16777216 = true) (hlen : ze.length = sz) (hpl : (List.range len).map (fun i => (i * sz, sz)) = pl) (hzs : (List.range (len * sz)).map (fun i => ze.toArray[i % ze.toArray.size]!) = zs) (hp : evP g parts.toList = some ps) (hf : fillL pl zs ps = some cs) :
    OpL C g l (.buildSlice T len parts) (fun u l' => ∃ b, u = .slice (some ⟨b, 0, none⟩) len len ∧ l' = blk b cs e :: l) :=
  ⟨(by intro c h; cases h), fun dst ty pos af gd a w hfit hs K Q kk => by
    obtain ⟨zv, hz, ez⟩ := run_zero w (C.ok.look he)
    have hsz : (sizeOf e).run C.P w = .ok sz w := run_sizeOf w (C.ok.look he)
    have ez' : zv.cells = ze.toArray := by
      have e1 : zv.cells.toList = ze := ez
      rw [← e1]
    have e2 : (parts.map fun (i, x) => (i, a.eval x)) = ps.toArray := by
      have := hfit.evP hp
      rw [← this]; apply Array.ext'; simp
    have hle : len * sz ≤ 16777216 := Nat.le_of_ble_eq_true hsmall
    have hcells : (Array.range (len * sz)).map (fun i => ze.toArray[i % ze.toArray.size]!) = zs.toArray := by
      rw [← hzs]; apply Array.ext'; simp
    have hfill : Instr.fill (fun i => some (i * sz, sz)) zs.toArray ps = some cs.toArray := by
      refine fill_mono ?_ (fillL_fill hf)
      intro i v h
      rw [← hpl] at h
      simp only [List.getElem?_toArray, List.getElem?_map] at h
      cases hr : (List.range len)[i]? with
      | none => rw [hr] at h; cases h
      | some j =>
        rw [hr] at h
        have : j = i := by
          have := List.getElem?_eq_some_iff.1 hr
          obtain ⟨h1, h2⟩ := this
          simpa using h2.symm
        subst this
        exact h
    have hrun : (Instr.buildSlice T len ps.toArray).run C.P w = .ok (.slice (some ⟨w.heap.size, 0, none⟩) len len) (w.alloc (.cells cs.toArray e (0, 0))) := by
      have hn : ¬ (len * sz > 2 ^ 24) := by omega
      by_cases h0 : len * sz = 0
      · have hz0 : zs = [] := by rw [← hzs, h0]; rfl
        have he : ∀ f : Nat → Value, (Array.range 0).map f = #[] := fun f => by apply Array.ext <;> simp
        rw [hz0] at hfill
        simp only [Instr.buildSlice, Sem.run_bind, run_underlying (und_slice (C.ok.look ht) rfl) w, Result.andThen, hsz, h0, if_true, Pure.pure, Sem.run, he, (by decide : ¬ (0 > 2 ^ 24)), if_false, hfill]
        simp [newRow, newObj, Sem.run, Result.andThen, Sem.run_bind]
      · simp only [Instr.buildSlice, Sem.run_bind, run_underlying (und_slice (C.ok.look ht) rfl) w, Result.andThen, hsz, hn, if_false, h0, hz, Pure.pure, Sem.run, ez']
        rw [hcells, hfill]
        simp [newRow, newObj, Sem.run, Result.andThen, Sem.run_bind]
    simp only [execOp, e2]
    rw [Sem.run_bind, hrun]
    simp only [Result.andThen, Pure.pure, Sem.run, Oper.uponIn]
    exact kk _ _ _ ⟨w.heap.size, rfl, rfl⟩ (hs.alloc _)⟩
end ops

section ops
variable {C : Ctx} {g : Regs} {l : List HP}
/-- A call, of arguments and assertions that are not laid open. -/
theorem OL_callP {x : Operand} {args : Array Operand} {ts : Array TypeId} {f : FuncId} {fi ca : Array Value} {vas full : List Value} {pre r : List HP} {post : Value → List HP → Prop}
    (hx : ev g x = some (.func (.func f) fi ca)) (ha : evs g args.toList = some vas) (hl : fi.toList ++ (vas ++ ca.toList) = full) (hs : Does C.P f full pre post) (hp : l.Perm (pre ++ r)) :
    OpL C g l (.call { callee := .value x, args := args, argTypes := ts }) (fun v l' => ∃ l1, post v l1 ∧ l' = l1 ++ r) :=
  ⟨(by intro c h; cases h), fun dst ty pos af gd a w hf hsat K Q k => by
    have e1 : args.map a.eval = vas.toArray := arr_of (hf.evs ha)
    have e2 : fi ++ vas.toArray ++ ca = full.toArray := by
      rw [← hl]; apply Array.ext'; simp
    have hs' : Sat C.W (pre ++ (r ++ C.fr)) w := (hsat.perm (hp.append_right _)).perm (by rw [List.append_assoc])
    simp only [execOp, resolve, e1, hf.ev hx, Deferred.ofValue, Sem.run_bind, Sem.run, Result.andThen, Pure.pure, invoke, e2]
    rw [hs.1 full.toArray w]
    refine ⟨fun h => (by cases h), (callsIn_wide (n := 0 - 1)).2 ((hs.2 C.W (r ++ C.fr) w hs').mono ?_)⟩
    rintro e w' ⟨v, l', rfl, hpost, hsat'⟩
    exact k _ _ _ ⟨l', hpost, rfl⟩ (hsat'.perm (by rw [List.append_assoc]))⟩
end ops

/-- A number of Go's. -/
def I64 (n : Int) : Prop := -9223372036854775808 ≤ n ∧ n ≤ 9223372036854775807
/-! ### What can be read as a slice -/
/-- Under R the slice (a, m, cap) of elements of sz cells each has the cells cs. -/
structure Reads (R : HP) (sz m : Nat) (a : Option Addr) (cap : Nat) (cs : List Value) : Prop where
  len : cs.length = m * sz
  empty : a = none → m = 0 ∧ cap = 0
  cell : ∀ (W : World) (l : List HP) (w : World), Sat W l w → R ∈ l → ∀ i, i < m * sz → ∃ b o, a = some ⟨b, o, none⟩ ∧ w.cell? ⟨b, o + i, none⟩ = cs[i]?
theorem Reads.src {R : HP} {sz m : Nat} {a : Option Addr} {cap : Nat} {cs : List Value} (h : Reads R sz m a cap cs) {C : Ctx} {l : List HP} (hm : R ∈ l) : Src C l sz m (.slice a m cap) cs := by
  refine ⟨h.len, rfl, fun w hs => ?_⟩
  cases a with
  | none =>
    obtain ⟨rfl, rfl⟩ := h.empty rfl
    have : cs = [] := List.eq_nil_of_length_eq_zero (by simpa using h.len)
    subst this; rfl
  | some a =>
    by_cases h0 : m * sz = 0
    · have : cs = [] := List.eq_nil_of_length_eq_zero (by rw [h.len, h0])
      subst this
      simp [Builtin.firstCells, h0, loadCells, loadCellsFrom, Pure.pure, Sem.run]
    · have hpos : 0 < m * sz := by omega
      obtain ⟨b, o, e, _⟩ := h.cell _ _ w hs (List.mem_append_left _ hm) 0 hpos
      injection e with e
      subst e
      have := run_loadCells_of (P := C.P) (w := w) (b := b) (off := o) (m * sz) 0 cs #[] h.len (fun j hj => by
        obtain ⟨b', o', e', hc⟩ := h.cell _ _ w hs (List.mem_append_left _ hm) j hj
        injection e' with e'
        injection e' with e1 e2
        subst e1 e2
        rw [Nat.zero_add]; exact hc)
      simpa [Builtin.firstCells, loadCells] using this
theorem Reads.row {T sz m cap : Nat} {a : Option Addr} {cs : List Value} (hl : cs.length = m * sz) (hn : a = none → m = 0 ∧ cap = 0) : Reads (row T sz a m cap cs) sz m a cap cs := by
  refine ⟨hl, hn, fun W l w hs hm i hi => ?_⟩
  obtain ⟨h1, s1, hp⟩ := hs.stars.mem hm
  rcases hp with ⟨rfl, rfl, rfl, rfl⟩ | ⟨b, pre, spare, rfl, e1, e2, e3, hb⟩
  · simp at hi
  · have hb' : w.heap[b]? = some (.cells (pre ++ cs ++ spare).toArray T (0, 0)) := s1 _ _ hb
    refine ⟨b, pre.length, rfl, ?_⟩
    rw [cell_of hb', List.append_assoc, List.getElem?_append_right (by omega), Nat.add_sub_cancel_left, List.getElem?_append_left (by omega)]
theorem Reads.blk {T sz m cap b : Nat} {cs : List Value} (hl : cs.length = m * sz) : Reads (blk b cs T) sz m (some ⟨b, 0, none⟩) cap cs := by
  refine ⟨hl, (fun h => by cases h), fun W l w hs hm i hi => ⟨b, 0, rfl, ?_⟩⟩
  rw [cell_of (hs.blk hm), Nat.zero_add]
theorem Reads.low {sz m cap b o : Nat} {W : World} {cs : List Value} (hb : m ≠ 0 → b < W.heap.size) (hl : cs.length = m * sz) (hc : ∀ j, j < m * sz → W.cell? ⟨b, o + j, none⟩ = cs[j]?) : Reads (Low W) sz m (some ⟨b, o, none⟩) cap cs := by
  refine ⟨hl, (fun h => by cases h), fun W' l w hs hm i hi => ⟨b, o, rfl, ?_⟩⟩
  have hm0 : m ≠ 0 := fun e => by subst e; simp at hi
  rw [← hc i hi]
  exact World.cell?_of_block (w := W) (hs.low hm (hb hm0))
theorem Reads.nil {sz : Nat} {R : HP} : Reads R sz 0 none 0 [] := ⟨by simp, fun _ => ⟨rfl, rfl⟩, fun _ _ _ _ _ i hi => by simp at hi⟩
/-- A row's own slice. -/
theorem row_len {T sz m cap : Nat} {a : Option Addr} {cs : List Value} {W : World} {l : List HP} {w : World} (hs : Sat W l w) (hm : row T sz a m cap cs ∈ l) : cs.length = m * sz ∧ (a = none → m = 0 ∧ cap = 0) ∧ m ≤ cap := by
  obtain ⟨h1, s1, hp⟩ := hs.stars.mem hm
  rcases hp with ⟨rfl, rfl, rfl, rfl⟩ | ⟨b, pre, spare, rfl, e1, e2, e3, hb⟩
  · simp
  · exact ⟨e1, (fun h => by cases h), e2⟩
/-- Some assertions first, n of the others dropped. -/
theorem Stars.pickR {l l1 r rc : List HP} {is : List Nat} (h : picks l is = some (l1, r)) (n : Nat) (hd : r.drop n = rc) {H : PH} (hl : Stars l H) : Stars (l1 ++ rc) H := by
  have h1 := hl.perm (picks_perm h)
  have e : l1 ++ r = l1 ++ (r.take n ++ rc) := by rw [← hd, List.take_append_drop]
  rw [e] at h1
  exact ((h1.perm ((List.perm_append_comm (l₁ := r.take n)).append_left l1)).perm (by rw [← List.append_assoc])).left
/-! what the assertions tell -/
section facts
variable {C : Ctx} {g : Regs} {l : List HP}
theorem J_fact {c : Code} {Q : Post} (φ : Prop) (hφ : ∀ w, Sat C.W (l ++ C.fr) w → φ) (h : φ → J C c Q g l) : J C c Q g l := ⟨fun a w hf hs => (h (hφ w hs)).out a w hf hs⟩
theorem JO_fact {opl os : List Oper} {Q : Post} (φ : Prop) (hφ : ∀ w, Sat C.W (l ++ C.fr) w → φ) (h : φ → JO C opl Q os g l) : JO C opl Q os g l := ⟨fun a w hf hs => (h (hφ w hs)).out a w hf hs⟩
theorem At_fact {R : Act → World → Prop} (φ : Prop) (hφ : ∀ w, Sat C.W (l ++ C.fr) w → φ) (h : φ → At C R g l) : At C R g l := ⟨fun a w hf hs => (h (hφ w hs)).out a w hf hs⟩
theorem At_row {R : Act → World → Prop} {T sz m cap i : Nat} {a : Option Addr} {cs : List Value} {r : List HP} (hi : pick1 l i = some (row T sz a m cap cs, r)) (h : cs.length = m * sz ∧ (a = none → m = 0 ∧ cap = 0) ∧ m ≤ cap → At C R g l) : At C R g l :=
  At_fact _ (fun w hs => row_len hs (List.mem_append_left _ (pick1_mem hi))) h
theorem J_row {c : Code} {Q : Post} {T sz m cap i : Nat} {a : Option Addr} {cs : List Value} {r : List HP} (hi : pick1 l i = some (row T sz a m cap cs, r)) (h : cs.length = m * sz ∧ (a = none → m = 0 ∧ cap = 0) ∧ m ≤ cap → J C c Q g l) : J C c Q g l :=
  J_fact _ (fun w hs => row_len hs (List.mem_append_left _ (pick1_mem hi))) h
theorem JO_row {opl os : List Oper} {Q : Post} {T sz m cap i : Nat} {a : Option Addr} {cs : List Value} {r : List HP} (hi : pick1 l i = some (row T sz a m cap cs, r)) (h : cs.length = m * sz ∧ (a = none → m = 0 ∧ cap = 0) ∧ m ≤ cap → JO C opl Q os g l) : JO C opl Q os g l :=
  JO_fact _ (fun w hs => row_len hs (List.mem_append_left _ (pick1_mem hi))) h
end facts
section ops
variable {C : Ctx} {g : Regs} {l : List HP}
theorem Reads.some {R : HP} {sz m cap : Nat} {a : Option Addr} {cs : List Value} (h : Reads R sz m a cap cs) (hm : 0 < m * sz) {W : World} {l : List HP} {w : World} (hs : Sat W l w) (hR : R ∈ l) : ∃ b o, a = some ⟨b, o, none⟩ := by
  obtain ⟨b, o, e, _⟩ := h.cell W l w hs hR 0 hm
  exact ⟨b, o, e⟩
theorem OQ_read {T b o m sz cap i : Nat} {R : HP} {cs : List Value} {x : Operand} {v : Value} (h : Reads R sz m (some ⟨b, o, none⟩) cap cs) (hR : R ∈ l) (hx : ev g x = some (ptr b (o + i))) (ha : aggAt C.ti T = some false) (hi : i < m * sz) (hc : cs[i]? = some v) : OpQ C g l (.load T x) v :=
  ⟨(by intro c h; cases h), fun dst ty pos af gd a hf w hs => by
    obtain ⟨b', o', e', hc'⟩ := h.cell _ _ w hs (List.mem_append_left _ hR) i hi
    injection e' with e'
    injection e' with e1 e2
    subst e1 e2
    have hl : (load ⟨b, o + i, none⟩).run C.P w = .ok v w := run_load (hc'.trans hc)
    simp only [execOp, hf.ev hx, ptr, Instr.loadAt, Instr.sureAddr, loadVar, Sem.run_bind, Sem.run, Result.andThen, Pure.pure, aggAt_run ha w, Bool.false_eq_true, if_false, hl, Oper.quietUpon, and_self]⟩
theorem OQ_readA {T b o m sz cap i n : Nat} {R : HP} {cs vs : List Value} {x : Operand} (h : Reads R sz m (some ⟨b, o, none⟩) cap cs) (hR : R ∈ l) (hx : ev g x = some (ptr b (o + i))) (ha : aggAt C.ti T = some true) (hn : sizeAt C.ti T = some n) (hi : i + n ≤ m * sz) (hc : takeL cs i n = some vs) : OpQ C g l (.load T x) (.agg vs.toArray) :=
  ⟨(by intro c h; cases h), fun dst ty pos af gd a hf w hs => by
    have hlen : cs.length = m * sz := h.len
    rw [takeL_eq (by omega)] at hc
    injection hc with hc
    have hvl : vs.length = n := by rw [← hc]; simp; omega
    have hl : (loadCells ⟨b, o + i, none⟩ n).run C.P w = .ok vs.toArray w := by
      have := run_loadCells_of (P := C.P) (w := w) (b := b) (off := o + i) n 0 vs #[] hvl (fun j hj => by
        obtain ⟨b', o', e', hc'⟩ := h.cell _ _ w hs (List.mem_append_left _ hR) (i + j) (by omega)
        injection e' with e'
        injection e' with e1 e2
        subst e1 e2
        rw [show o + i + (0 + j) = o + (i + j) by omega, hc', ← hc, List.getElem?_take_of_lt hj, List.getElem?_drop])
      simpa [loadCells] using this
    simp only [execOp, hf.ev hx, ptr, Instr.loadAt, Instr.sureAddr, loadVar, Sem.run_bind, Sem.run, Result.andThen, Pure.pure, aggAt_run ha w, if_true, sizeAt_run hn w, hl, Oper.quietUpon, and_self]⟩
end ops
end Go.Sep
