/-
  Our own, over any program: slices: made, cut, appended to, copied, cleared; rows that a slice owns.
-/
import Derived.Test.YtchanmljjfcplaaJf
import Derived.Laws.Slices
set_option linter.unusedSimpArgs false
set_option linter.unusedVariables false
namespace Go.Sep
open Go.RowKit

theorem putL_split : ∀ {vs cs : List Value} {off : Nat}, off + vs.length ≤ cs.length → putL cs off vs = some (cs.take off ++ vs ++ cs.drop (off + vs.length)) := by
  intro vs
  induction vs with
  | nil => intro cs off h; simp [putL]
  | cons v vs ih =>
    intro cs off h
    simp only [List.length_cons] at h
    have h1 : off < cs.length := by omega
    simp only [putL, put1_set h1]
    rw [ih (by simp; omega)]
    congr 1
    apply List.ext_getElem?
    intro i
    simp only [List.getElem?_append, List.length_take, List.length_set, List.getElem?_take, List.getElem?_set, List.getElem?_drop, List.length_append, List.length_cons]
    by_cases c1 : i < off
    · simp [c1, h1, show i < off + 1 by omega, show min (off + 1) cs.length = off + 1 by omega, show min off cs.length = off by omega, show off ≠ i by omega, show i < off + 1 + vs.length by omega, show i < off + (vs.length + 1) by omega]
    · by_cases c2 : i = off
      · subst c2
        simp [h1, show min (i + 1) cs.length = i + 1 by omega, show min i cs.length = i by omega, show i < i + 1 + vs.length by omega, show i < i + (vs.length + 1) by omega]
      · by_cases c3 : i < off + 1 + vs.length
        · simp [c1, c3, show ¬ i < off + 1 by omega, show min (off + 1) cs.length = off + 1 by omega, show min off cs.length = off by omega, show i < off + (vs.length + 1) by omega]
          rw [show i - off = (i - (off + 1)) + 1 by omega]
          simp
        · simp [c1, c3, show min (off + 1) cs.length = off + 1 by omega, show min off cs.length = off by omega, show ¬ i < off + (vs.length + 1) by omega]
          rw [if_neg (by omega)]
          congr 1
          omega
theorem takeL_eq : ∀ {n : Nat} {cs : List Value} {o : Nat}, o + n ≤ cs.length → takeL cs o n = some ((cs.drop o).take n) := by
  intro n
  induction n with
  | zero => intro cs o h; simp [takeL]
  | succ n ih =>
    intro cs o h
    have h1 : o < cs.length := by omega
    simp only [takeL, ih (show o + 1 + n ≤ cs.length by omega), List.getElem?_eq_getElem h1]
    rw [List.drop_eq_getElem_cons h1, List.take_succ_cons]

/-- The cells of a row of noughts. -/
theorem range_rep (n : Nat) (v : Value) : (Array.range (n * 1)).map (fun i => #[v][i % #[v].size]!) = (List.replicate n v).toArray := by
  apply Array.ext
  · simp
  · intro i h1 h2
    simp [Nat.mod_one]

section ops
variable {C : Ctx} {g : Regs} {l : List HP}

/-- make([]T, n), elements of one cell. -/
theorem OL_make {T e s1 s2 by_ : Nat} {d : TD} {z : List Value} {x y : Operand} {n : Int} {k k' : IntKind} {v : Value} (ht : look C.ti T = some ⟨.slice e, s1, s2, z⟩) (he : look C.ti e = some ⟨d, 1, by_, [v]⟩)
    (hx : ev g x = some (.int k n)) (hy : ev g y = some (.int k' n)) (h0 : 0 ≤ n) (h1 : (by_ : Int) * n ≤ 140737488355328) (h2 : n ≤ 9223372036854775807) :
    OpL C g l (.makeSlice T x y) (fun u l' => ∃ b, u = .slice (some ⟨b, 0, none⟩) n.toNat n.toNat ∧ l' = blk b (List.replicate n.toNat v) e :: l) :=
  ⟨(by intro c h; cases h), fun dst ty pos af gd a w hf hs K Q kk => by
    obtain ⟨f, hf1, hf2⟩ := run_bytes w (C.ok.look he)
    obtain ⟨zv, hz, ez⟩ := run_zero w (C.ok.look he)
    have hsz := run_sizeOf w (C.ok.look he)
    have ez' : zv.cells = #[v] := by
      have e1 : zv.cells.toList = [v] := ez
      rw [← e1]
    have hf2' : f.bytes = by_ := hf2
    have hw : IntKind.i64.wrap n = n := wrap_id (by omega) h2
    have hrun : ∃ w', (Instr.makeSlice T (.int k n) (.int k' n)).run C.P w = .ok (.slice (some ⟨w.heap.size, 0, none⟩) n.toNat n.toNat) w' ∧ w' = w.alloc (.cells (List.replicate n.toNat v).toArray e (0, 0)) := by
      refine ⟨_, ?_, rfl⟩
      have hc1 : ((decide (n < 0) || decide ((by_ : Int) * n > 2 ^ 48)) || decide (n < 0) || decide (n > n)) = false := by
        simp; omega
      have hroom : (askRoom (n.toNat * by_)).run C.P w = .ok () w := by
        unfold askRoom
        split <;> rfl
      have hsz' : (sizeOf e).run C.P w = .ok 1 w := hsz
      simp only [Instr.makeSlice, Sem.run_bind, run_underlying (und_slice (C.ok.look ht) rfl) w, Result.andThen, asInt, asIntOf, Pure.pure, Sem.run, hf1, hf2', hw, hc1, Bool.false_eq_true, if_false, hroom, hsz']
      by_cases h : n.toNat * 1 = 0
      · have h' : n.toNat = 0 := by omega
        have he : (Array.map (fun _ => (default : Value)) (Array.range 0)) = #[] := by apply Array.ext <;> simp
        simp [h, h', newRow, newObj, Sem.run, he]
      · have hcells := range_rep n.toNat v
        simp only [h, if_false, Sem.run_bind, hz, Result.andThen, ez', newRow, newObj, Sem.run, Pure.pure]
        rw [hcells]
        rfl
    obtain ⟨w', hr, rfl⟩ := hrun
    simp only [execOp, hf.ev hx, hf.ev hy, Sem.run_bind, hr, Result.andThen, Pure.pure, Sem.run, Oper.uponIn]
    exact kk _ _ _ ⟨w.heap.size, rfl, rfl⟩ (hs.alloc _)⟩

/-- x[lo:hi] of a slice, the bounds as they are told (none: from the start; to its length). -/
def evO (g : Regs) : Option Operand → Option (Option Value)
  | none => some none
  | some x => match ev g x with
    | some v => some (some v)
    | none => none
def boundLo : Option Value → Option Int
  | none => some 0
  | some (.int _ n) => some n
  | _ => none
def boundHi (len : Nat) : Option Value → Option Int
  | none => some len
  | some (.int _ n) => some n
  | _ => none
theorem Fits.evO {a : Act} {x : Option Operand} {v : Option Value} (h : Fits C g a) (e : evO g x = some v) : x.map a.eval = v := by
  cases x with
  | none => simp [Sep.evO] at e; subst e; rfl
  | some x =>
    simp only [Sep.evO] at e
    split at e
    · rename_i u hu; injection e with e; subst e; simp [h.ev hu]
    · cases e
theorem run_sliceBound {P : Program} {k : IntKind} {n : Int} {y : Nat} {code : BoundsCode} (w : World) (h0 : 0 ≤ n) (h1 : n ≤ y) : (Instr.sliceBound (.int k n) y code).run P w = .ok n.toNat w := by
  have hc : 0 ≤ n ∧ n ≤ (y : Int) := ⟨h0, h1⟩
  simp only [Instr.sliceBound, asIntOf, Sem.run_bind, Pure.pure, Sem.run, Result.andThen, hc, and_self, if_true]
theorem OV_slice {T e sz s1 s2 len cap : Nat} {z : List Value} {x : Operand} {lo hi : Option Operand} {vlo vhi : Option Value} {p : Option Addr} {m n : Int} (ht : look C.ti T = some ⟨.slice e, s1, s2, z⟩) (hsz : sizeAt C.ti e = some sz)
    (hx : ev g x = some (.slice p len cap)) (hlo : evO g lo = some vlo) (hhi : evO g hi = some vhi) (hm : boundLo vlo = some m) (hn : boundHi len vhi = some n)
    (h0 : 0 ≤ m) (h1 : m ≤ n) (h2 : n ≤ cap) {p' : Option Addr} (hp : (if cap = m.toNat then p else p.map (·.add (m.toNat * sz))) = p') :
    OpV C g (.slice T x lo hi none) (.slice p' (n.toNat - m.toNat) (cap - m.toNat)) := by
  refine ⟨(by intro c h; cases h), fun d ty pos af gd a w hf => ?_⟩
  subst hp
  have hz : (sizeOf e).run C.P w = .ok sz w := sizeAt_run hsz w
  have hu := run_underlying (und_slice (C.ok.look ht) rfl) w
  have hb : (Instr.sliceBounds true len cap vlo vhi none).run C.P w = .ok (m.toNat, n.toNat, cap) w := by
    unfold Instr.sliceBounds
    cases vhi with
    | none =>
      simp only [boundHi, Option.some.injEq] at hn
      subst hn
      cases vlo with
      | none =>
        simp only [boundLo, Option.some.injEq] at hm
        subst hm
        simp [Sem.run_bind, Pure.pure, Sem.run, Result.andThen]
      | some u =>
        cases u <;> simp [boundLo] at hm
        subst hm
        have hl := run_sliceBound (P := C.P) (k := by assumption) (code := .sliceB) w h0 (y := len) h1
        simp [Sem.run_bind, Pure.pure, Sem.run, Result.andThen, hl]
    | some u =>
      cases u <;> simp [boundHi] at hn
      subst hn
      have hh := fun k => run_sliceBound (P := C.P) (k := k) (code := .sliceAcap) w (show 0 ≤ by assumption by omega) (y := cap) h2
      cases vlo with
      | none =>
        simp only [boundLo, Option.some.injEq] at hm
        subst hm
        simp [Sem.run_bind, Pure.pure, Sem.run, Result.andThen, hh]
      | some u =>
        cases u <;> simp [boundLo] at hm
        subst hm
        have hl := fun k (y : Nat) (hy : _ ≤ (y : Int)) => run_sliceBound (P := C.P) (k := k) (code := .sliceB) w h0 (y := y) hy
        simp [Sem.run_bind, Pure.pure, Sem.run, Result.andThen, hh]
        rw [hl _ _ (by omega)]
  have hlo' := hf.evO hlo
  have hhi' := hf.evO hhi
  have hr : (Instr.sliceAt T (.slice p len cap) vlo vhi none).run C.P w = .ok (.slice (if cap = m.toNat then p else p.map (·.add (m.toNat * sz))) (n.toNat - m.toNat) (cap - m.toNat)) w := by
    simp only [Instr.sliceAt, Sem.run_bind, hu, Result.andThen, Instr.slice, hb, hz]
    rfl
  simp only [execOp, hf.ev hx, hlo', hhi', Option.map_none]
  rw [Sem.run_bind, hr]
  rfl
end ops

/-! ### Rows that a slice owns -/
/-- The slice (a, n, cap) of elements of type T, sz cells each: its elements' cells are cs, and its block is its own (or it is nil). -/
def row (T sz : Nat) (a : Option Addr) (n cap : Nat) (cs : List Value) : HP := fun h =>
  (a = none ∧ n = 0 ∧ cap = 0 ∧ cs = []) ∨
  ∃ (b : Nat) (pre spare : List Value), a = some ⟨b, pre.length, none⟩ ∧ cs.length = n * sz ∧ n ≤ cap ∧ spare.length = (cap - n) * sz ∧ blk b (pre ++ cs ++ spare) T h
theorem row_nil {T sz : Nat} {l : List HP} {H : PH} (h : Stars l H) : Stars (row T sz none 0 0 [] :: l) H :=
  ⟨fun _ => none, H, fun _ => .inl rfl, (fun _ _ e => by cases e), Sub.refl _, .inl ⟨rfl, rfl, rfl, rfl⟩, h⟩
theorem row_blk {T sz b n cap : Nat} {cs spare : List Value} {l : List HP} {H : PH} (h : Stars (blk b (cs ++ spare) T :: l) H) (h1 : cs.length = n * sz) (h2 : n ≤ cap) (h3 : spare.length = (cap - n) * sz) :
    Stars (row T sz (some ⟨b, 0, none⟩) n cap cs :: l) H :=
  h.weak fun hh hb => .inr ⟨b, [], spare, rfl, h1, h2, h3, by simpa using hb⟩
theorem row_full {T sz b n : Nat} {cs : List Value} {l : List HP} {H : PH} (h : Stars (blk b cs T :: l) H) (h1 : cs.length = n * sz) : Stars (row T sz (some ⟨b, 0, none⟩) n n cs :: l) H :=
  row_blk (spare := []) (by simpa using h) h1 (Nat.le_refl _) (by simp)

/-- What a slice of m elements reads as, in any world of these assertions. -/
def Src (C : Ctx) (l : List HP) (sz m : Nat) (v : Value) (cs : List Value) : Prop :=
  cs.length = m * sz ∧ (Builtin.lenOf v = Pure.pure m) ∧ ∀ w, Sat C.W (l ++ C.fr) w → (Builtin.firstCells sz m v).run C.P w = .ok cs.toArray w
theorem Src.nil {C : Ctx} {l : List HP} {sz : Nat} : Src C l sz 0 (.slice none 0 0) [] := ⟨by simp, rfl, fun w _ => rfl⟩
theorem Src.blk {C : Ctx} {l : List HP} {sz m cap b o T : Nat} {cs vs : List Value} (hm : blk b cs T ∈ l) (h : takeL cs o (m * sz) = some vs) (hl : vs.length = m * sz) : Src C l sz m (.slice (some ⟨b, o, none⟩) m cap) vs :=
  ⟨hl, rfl, fun w hs => by
    have hb := hs.blk (List.mem_append_left _ hm)
    have := run_loadCells (P := C.P) hb o (m * sz) 0 vs #[] h
    simpa [Builtin.firstCells, loadCells] using this⟩
theorem Src.row {C : Ctx} {l : List HP} {sz m cap T : Nat} {a : Option Addr} {cs : List Value} (hm : row T sz a m cap cs ∈ l) : Src C l sz m (.slice a m cap) cs ∨ ¬ (cs.length = m * sz) := by
  by_cases hc : cs.length = m * sz
  · left
    refine ⟨hc, rfl, fun w hs => ?_⟩
    obtain ⟨h1, s1, hp⟩ := hs.stars.mem (List.mem_append_left C.fr hm)
    rcases hp with ⟨rfl, rfl, rfl, rfl⟩ | ⟨b, pre, spare, rfl, e1, e2, e3, hb⟩
    · rfl
    · have hb' : w.heap[b]? = some (.cells (pre ++ cs ++ spare).toArray T (0, 0)) := s1 _ _ hb
      have := run_loadCells (P := C.P) hb' pre.length (m * sz) 0 cs #[] (by
        rw [takeL_eq (by simp; omega), List.append_assoc, Nat.add_zero, List.drop_left, List.take_left' hc])
      simpa [Builtin.firstCells, loadCells] using this
  · exact .inr hc
theorem Src.low {C : Ctx} {l : List HP} {sz m cap b o : Nat} {W' : World} {cs : List Value} (hm : Low W' ∈ l) (hb : m ≠ 0 → b < W'.heap.size) (hl : cs.length = m * sz) (hc : ∀ j, j < m * sz → W'.cell? ⟨b, o + j, none⟩ = cs[j]?) :
    Src C l sz m (.slice (some ⟨b, o, none⟩) m cap) cs :=
  ⟨hl, rfl, fun w hs => by
    have := run_loadCells_of (P := C.P) (w := w) (b := b) (off := o) (m * sz) 0 cs #[] hl (fun j hj => by
      have hm0 : m ≠ 0 := fun e => by subst e; simp at hj
      rw [show o + (0 + j) = o + j by omega, ← hc j hj]
      exact World.cell?_of_block (w := W') (hs.low (List.mem_append_left _ hm) (hb hm0)))
    simpa [Builtin.firstCells, loadCells] using this⟩

theorem nextcap_le (need cap : Nat) (h : cap < need) : Builtin.nextslicecap need cap ≤ 2 * need + 1024 := by
  unfold Builtin.nextslicecap
  split
  · omega
  · split
    · omega
    · have grow : ∀ (r c : Nat), c ≤ 2 * need + 1024 → Builtin.growBy need r c ≤ 2 * need + 1024 := by
        intro r
        induction r with
        | zero => intro c hc; exact hc
        | succ r ih =>
          intro c hc
          simp only [Builtin.growBy]
          split
          · exact hc
          · refine ih _ ?_
            omega
      exact grow 4 cap (by omega)
theorem zeroCells_eq {z : Value} {n : Nat} {v : Value} (h : z.cells = #[v]) : (Builtin.zeroCells z.cells n).toList.length = n * 1 := by
  simp [Builtin.zeroCells, h]
theorem zeroCells_len (z : Array Value) (n : Nat) : (Builtin.zeroCells z n).toList.length = n * z.size := by
  simp [Builtin.zeroCells]

theorem plainL_rep {v : Value} (h : plainL [v] = true) (n : Nat) : plainL (List.replicate n v) = true := by
  have step : ∀ r, plainL r = true → plainL (v :: r) = true := by
    intro r hr
    cases v <;> simp [plainL] at h ⊢ <;> exact hr
  induction n with
  | zero => rfl
  | succ n ih => rw [List.replicate_succ]; exact step _ ih
section append
variable {C : Ctx} {g : Regs} {l : List HP}
theorem pick1_mem {α : Type} {l : List α} {i : Nat} {x : α} {r : List α} (h : pick1 l i = some (x, r)) : x ∈ l := (pick1_perm h).symm.subset (List.mem_cons_self ..)
theorem run_choose_cap {P : Program} {need cap e : Nat} (w : World) (h : need < 9223372036854775808) :
    ∃ c, need ≤ c ∧ (choose (.appendCap need cap e)).run P w = .ok c { w with drawn := w.drawn + 1 } := by
  refine ⟨(Question.appendCap need cap e).cut (w.tape w.drawn (.appendCap need cap e)), ?_, ?_⟩
  · simp [Question.cut]
  · simp [choose, Sem.run, Question.forced]
/-- What append comes to. -/
theorem run_append {P : Program} {e T T2 sz by_ n m cap : Nat} {d2 : TypeDesc} {f : TypeInfo} {a : Option Addr} {v2 zv : Value} {ty : TypeId} {w : World} {old news : List Value} (hu : P.underlying T = some (.slice e)) (hu2 : P.underlying T2 = some d2) (hni : ∀ k, d2 ≠ .int k)
    (hsz : ∀ w, (sizeOf e).run P w = .ok sz w) (hf : ∀ w, (typeInfo e).run P w = .ok f w) (hby : f.bytes = by_) (hz : ∀ w, (zeroValue e).run P w = .ok zv w) (hlo : Builtin.lenOf v2 = Pure.pure m)
    (hold : ∀ k, (Builtin.firstCells sz n (.slice a n cap)).run P { w with drawn := k } = .ok old.toArray { w with drawn := k }) (hnew : ∀ k, (Builtin.firstCells sz m v2).run P { w with drawn := k } = .ok news.toArray { w with drawn := k })
    (hb : (2 * (n + m) + 1024) * by_ ≤ 140737488355328) (hnm : n + m < 9223372036854775807) (hby0 : by_ ≠ 0) :
    (n + m ≤ cap → ∀ w', (match a with | some p => (storeCells (p.add (n * sz)) news : Sem Unit) | none => Pure.pure ()).run P w = .ok () w' →
      (Builtin.append_ #[T, T2] ty #[.slice a n cap, v2]).run P w = .ok (.slice a (n + m) cap) w') ∧
    (¬ n + m ≤ cap → ∃ c, n + m ≤ c ∧ (Builtin.append_ #[T, T2] ty #[.slice a n cap, v2]).run P w =
      .ok (.slice (some ⟨w.heap.size, 0, none⟩) (n + m) c) (({ w with drawn := w.drawn + 1 } : World).alloc (.cells (old ++ news ++ (Builtin.zeroCells zv.cells (c - (n + m))).toList).toArray e))) := by
  have hnew0 := hnew w.drawn
  have hu' := fun w => run_underlying (P := P) hu w
  have hu2' := fun w => run_underlying (P := P) hu2 w
  have e0 : ({ w with drawn := w.drawn } : World) = w := rfl
  rw [e0] at hnew0
  constructor
  · intro hfit w' hw'
    cases d2 <;> first | exact absurd rfl (hni _) | skip
    all_goals
      simp only [Builtin.append_, List.getElem?_toArray, List.getElem?_cons_zero, List.getElem?_cons_succ, Sem.run_bind, hu', hsz, hu2', Result.andThen, Pure.pure, Sem.run, hlo, hfit, hnew0, Bool.false_eq_true, Bool.not_false, if_true, if_false]
      cases a with
      | none => simp only [Pure.pure, Sem.run] at hw'; injection hw' with h1 h2; subst h2; rfl
      | some p => simp only [Sem.run_bind, hw', Result.andThen, Sem.run]
  · intro hfit
    obtain ⟨c, hc, hch⟩ := run_choose_cap (P := P) (need := n + m) (cap := cap) (e := e) w (by omega)
    refine ⟨c, hc, ?_⟩
    have hold1 := hold (w.drawn + 1)
    have hnew1 := hnew (w.drawn + 1)
    have hns := nextcap_le (n + m) cap (by omega)
    have h1 : ¬ (((n + m : Nat) : Int) > IntKind.i64.max) := by
      have : IntKind.i64.max = 9223372036854775807 := by decide
      rw [this]; omega
    have h2 : ¬ (Builtin.nextslicecap (n + m) cap * f.bytes > 2 ^ 48) := by
      rw [hby]
      have := Nat.mul_le_mul_right by_ hns
      omega
    have hroom : ∀ b w, (askRoom b).run P w = .ok () w := by
      intro b w
      unfold askRoom
      split <;> rfl
    cases d2 <;> first | exact absurd rfl (hni _) | skip
    all_goals
      simp only [Builtin.append_, List.getElem?_toArray, List.getElem?_cons_zero, List.getElem?_cons_succ, Sem.run_bind, hu', hsz, hu2', Result.andThen, Pure.pure, Sem.run, hlo, hfit, Bool.false_eq_true, Bool.not_false, if_true, if_false, hf, h1, h2, false_and, hch, hroom, hold1, hnew1, hz, newRow, newObj]
      have hcs : old.toArray ++ news.toArray ++ Builtin.zeroCells zv.cells (c - (n + m)) = (old ++ news ++ (Builtin.zeroCells zv.cells (c - (n + m))).toList).toArray := by apply Array.ext'; simp
      rw [hcs]
      rfl
/-- append(x, y...): the row grows, where it lies or in a new block. -/
theorem OL_append {T e s1 s2 sz by_ : Nat} {d : TD} {z ze : List Value} {x y : Operand} {a : Option Addr} {n m cap i T2 : Nat} {cs news : List Value} {v2 : Value} {r : List HP} {i2 : TyI} (ht : look C.ti T = some ⟨.slice e, s1, s2, z⟩) (he : look C.ti e = some ⟨d, sz, by_, ze⟩) (hz : ze.length = sz)
    (hx : ev g x = some (.slice a n cap)) (hy : ev g y = some v2) (hi : pick1 l i = some (row e sz a n cap cs, r)) (hsrc : Src C l sz m v2 news) (hplain : plainL news = true)
    (hT2 : look C.ti T2 = some i2) (hni : ∀ k, i2.d ≠ .int k) (hb : (2 * (n + m) + 1024) * by_ ≤ 140737488355328) (hnm : n + m < 9223372036854775807) (hby : by_ ≠ 0) :
    OpL C g l (.call { callee := .builtin .append, args := #[x, y], argTypes := #[T, T2] }) (fun u l' => ∃ a' cap', u = .slice a' (n + m) cap' ∧ l' = row e sz a' (n + m) cap' (cs ++ news) :: r) :=
  ⟨(by intro c h; cases h), fun dst ty pos af gd ac w hf hs K Q kk => by
    obtain ⟨_, d2, _, _, hu2, _, ed2, _⟩ := tyView_parts (C.ok.look hT2)
    have hni' : ∀ k, d2 ≠ .int k := fun k h => hni k (by rw [← ed2, h]; rfl)
    have hu := und_slice (C.ok.look ht) rfl
    have hsz' : ∀ w, (sizeOf e).run C.P w = .ok sz w := fun w => run_sizeOf w (C.ok.look he)
    obtain ⟨ft, _, zv, hft, _, hzv, _, _, hfb, hzc⟩ := tyView_parts (C.ok.look he)
    have hf1 : ∀ w, (typeInfo e).run C.P w = .ok ft w := fun w => run_typeInfo w hft
    have hz1 : ∀ w, (zeroValue e).run C.P w = .ok zv w := fun w => by simp [zeroValue, Sem.run_bind, run_typeInfo w hft, Result.andThen, hzv, Pure.pure]
    have hzs : zv.cells.size = sz := by rw [← hz, ← Array.length_toList]; exact congrArg List.length hzc
    obtain ⟨hlen, hlo, hread⟩ := hsrc
    have hs' : Sat C.W (row e sz a n cap cs :: (r ++ C.fr)) w := hs.perm ((pick1_perm hi).append_right _)
    have hrow : cs.length = n * sz ∧ n ≤ cap := by
      obtain ⟨h1, _, _, _, _, hp, _⟩ := hs'.stars
      rcases hp with ⟨_, rfl, rfl, rfl⟩ | ⟨b, pre, spare, _, e1, e2, e3, _⟩
      · simp
      · exact ⟨e1, e2⟩
    have hold : ∀ k, (Builtin.firstCells sz n (.slice a n cap)).run C.P { w with drawn := k } = .ok cs.toArray { w with drawn := k } := by
      intro k
      rcases Src.row (C := C) (l := l) (pick1_mem hi) with h | h
      · exact h.2.2 _ (hs.drawn k)
      · exact absurd hrow.1 h
    have hnew : ∀ k, (Builtin.firstCells sz m v2).run C.P { w with drawn := k } = .ok news.toArray { w with drawn := k } := fun k => hread _ (hs.drawn k)
    obtain ⟨A1, A2⟩ := run_append (ty := ty) hu hu2 hni' hsz' hf1 hfb hz1 hlo hold hnew hb hnm hby
    have hrun : ∃ a' cap' w', (Builtin.append_ #[T, T2] ty #[.slice a n cap, v2]).run C.P w = .ok (.slice a' (n + m) cap') w' ∧ Sat C.W (row e sz a' (n + m) cap' (cs ++ news) :: (r ++ C.fr)) w' := by
      by_cases hfit : n + m ≤ cap
      · obtain ⟨h1, h2, ap, s1, s2, hp, hl⟩ := hs'.stars
        rcases hp with ⟨rfl, rfl, rfl, rfl⟩ | ⟨b, pre, spare, rfl, e1, e2, e3, hbk⟩
        · have hm0 : m = 0 := by omega
          subst hm0
          have hn0 : news = [] := List.eq_nil_of_length_eq_zero (by simpa using hlen)
          subst hn0
          exact ⟨none, 0, w, A1 hfit w rfl, hs'⟩
        · have hsb : Sat C.W (blk b (pre ++ cs ++ spare) e :: (r ++ C.fr)) w := ⟨hs'.os, hs'.tape, hs'.output, h1, h2, ap, s1, s2, hbk, hl⟩
          have hle : m * sz ≤ spare.length := by rw [e3]; exact Nat.mul_le_mul_right _ (by omega)
          have hput : putL (pre ++ cs ++ spare) (pre.length + n * sz + 0) news = some (pre ++ (cs ++ news) ++ spare.drop (m * sz)) := by
            rw [putL_split (by simp; omega)]
            have e4 : pre.length + n * sz = (pre ++ cs).length := by simp [e1]
            rw [Nat.add_zero, e4, List.take_left, hlen, List.drop_append]
            have e5 : List.drop ((pre ++ cs).length + m * sz) (pre ++ cs) = [] := List.drop_eq_nil_of_le (by omega)
            rw [e5, Nat.add_sub_cancel_left]
            simp
          obtain ⟨w', hr, hs2⟩ := run_storeCells (P := C.P) news w C.W _ b (pre.length + n * sz) 0 e _ _ hsb (plainL_mem hplain) hput
          refine ⟨some ⟨b, pre.length, none⟩, cap, w', A1 hfit w' (by simp only [addr_add]; exact hr), hs2.os, hs2.tape, hs2.output, hs2.stars.weak fun hh hbb => .inr ⟨b, pre, spare.drop (m * sz), rfl, ?_, hfit, ?_, hbb⟩⟩
          · simp [e1, hlen, Nat.add_mul]
          · simp [e3]; rw [← Nat.sub_mul]; congr 1; omega
      · obtain ⟨c, hc, hr⟩ := A2 hfit
        refine ⟨_, c, _, hr, ?_⟩
        have hs2 := (hs'.drawn (w.drawn + 1)).alloc (.cells (cs ++ news ++ (Builtin.zeroCells zv.cells (c - (n + m))).toList).toArray e (0, 0))
        refine ⟨hs2.os, hs2.tape, hs2.output, ?_⟩
        have hs3 : Stars (blk w.heap.size ((cs ++ news) ++ (Builtin.zeroCells zv.cells (c - (n + m))).toList) e :: (r ++ C.fr)) _ := (hs2.stars.swap).tail
        exact row_blk hs3 (by simp [hrow.1, hlen, Nat.add_mul]) hc (by rw [zeroCells_len, hzs])
    obtain ⟨a', cap', w', hr, hs''⟩ := hrun
    have := run_builtin_of (P := C.P) (ρ := ac.eval) (b := .append) (xs := #[x, y]) (ts := #[T, T2]) (w := w) (d := dst) (ty := ty) (pos := pos) (af := af) (gd := gd) (n := .value (.slice a' (n + m) cap')) (w' := w') (by
      simp only [builtin, List.map_toArray, List.map_cons, List.map_nil, hf.ev hx, hf.ev hy]
      rw [Sem.run_bind, hr]; rfl)
    rw [this]
    exact kk _ _ _ ⟨a', cap', rfl, rfl⟩ hs''⟩
/-- copy(x, y): cells of a block told otherwise. -/
theorem OL_copy {T T2 e s1 s2 sz b o n cap m i Tb : Nat} {z : List Value} {x y : Operand} {cs cs' news : List Value} {v2 : Value} {r : List HP} (ht : look C.ti T = some ⟨.slice e, s1, s2, z⟩) (hsz : sizeAt C.ti e = some sz)
    (hx : ev g x = some (.slice (some ⟨b, o, none⟩) n cap)) (hy : ev g y = some v2) (hi : pick1 l i = some (blk b cs Tb, r)) (hlo : Builtin.lenOf v2 = Pure.pure m) (hread : ∀ w, Sat C.W (l ++ C.fr) w → (Builtin.firstCells sz (min m n) v2).run C.P w = .ok news.toArray w) (hplain : plainL news = true)
    (hput : putL cs o news = some cs') : OpL C g l (.call { callee := .builtin .copy, args := #[x, y], argTypes := #[T, T2] }) (fun u l' => u = .int .i64 (min m n) ∧ l' = blk b cs' Tb :: r) :=
  ⟨(by intro c h; cases h), fun dst ty pos af gd ac w hf hs K Q kk => by
    have hu := run_underlying (und_slice (C.ok.look ht) rfl) w
    have hs' : Sat C.W (blk b cs Tb :: (r ++ C.fr)) w := hs.perm ((pick1_perm hi).append_right _)
    obtain ⟨w', hr, hs2⟩ := run_storeCells (P := C.P) news w C.W _ b o 0 Tb _ _ hs' (plainL_mem hplain) hput
    have hrd := hread w hs
    have hrun : (Builtin.copy_ #[T, T2] ty #[.slice (some ⟨b, o, none⟩) n cap, v2]).run C.P w = .ok (.int .i64 (min m n)) w' := by
      have hmin : Nat.min m n = min m n := rfl
      simp only [Builtin.copy_, List.getElem?_toArray, List.getElem?_cons_zero, List.getElem?_cons_succ, Sem.run_bind, hu, Result.andThen, Pure.pure, Sem.run, hlo, sizeAt_run hsz w, hmin, hrd, hr]
      simp [goInt]
      omega
    have := run_builtin_of (P := C.P) (ρ := ac.eval) (b := .copy) (xs := #[x, y]) (ts := #[T, T2]) (w := w) (d := dst) (ty := ty) (pos := pos) (af := af) (gd := gd) (n := .value (.int .i64 (min m n))) (w' := w') (by
      simp only [builtin, List.map_toArray, List.map_cons, List.map_nil, hf.ev hx, hf.ev hy]
      rw [Sem.run_bind, hrun]; rfl)
    rw [this]
    exact kk _ _ _ ⟨rfl, rfl⟩ hs2⟩
/-- clear(x) of a slice. -/
theorem OL_clear {T e s1 s2 by_ b o n cap i Tb : Nat} {d : TD} {z : List Value} {v : Value} {x : Operand} {cs cs' : List Value} {r : List HP} (ht : look C.ti T = some ⟨.slice e, s1, s2, z⟩) (he : look C.ti e = some ⟨d, 1, by_, [v]⟩)
    (hx : ev g x = some (.slice (some ⟨b, o, none⟩) n cap)) (hi : pick1 l i = some (blk b cs Tb, r)) (hplain : plainL [v] = true)
    (hput : putL cs o (List.replicate n v) = some cs') : OpL C g l (.call { callee := .builtin .clear, args := #[x], argTypes := #[T] }) (fun u l' => u = .tuple #[] ∧ l' = blk b cs' Tb :: r) :=
  ⟨(by intro c h; cases h), fun dst ty pos af gd ac w hf hs K Q kk => by
    have hu := run_underlying (und_slice (C.ok.look ht) rfl) w
    have hs' : Sat C.W (blk b cs Tb :: (r ++ C.fr)) w := hs.perm ((pick1_perm hi).append_right _)
    obtain ⟨zv, hz, ez⟩ := run_zero w (C.ok.look he)
    have ez' : zv.cells = #[v] := by
      have e1 : zv.cells.toList = [v] := ez
      rw [← e1]
    have hpl : plainL (List.replicate n v) = true := plainL_rep hplain n
    obtain ⟨w', hr, hs2⟩ := run_storeCells (P := C.P) (List.replicate n v) w C.W _ b o 0 Tb _ _ hs' (plainL_mem hpl) hput
    have hzc : (Builtin.zeroCells #[v] n).toList = List.replicate n v := by
      rw [show Builtin.zeroCells #[v] n = (Array.range (n * 1)).map (fun i => #[v][i % #[v].size]!) from rfl, range_rep]
    have hrun : (Builtin.clear_ #[T] ty #[.slice (some ⟨b, o, none⟩) n cap]).run C.P w = .ok (.tuple #[]) w' := by
      cases n with
      | zero =>
        simp only [List.replicate_zero, storeCells, Pure.pure, Sem.run] at hr
        injection hr with _ e; subst e
        simp only [Builtin.clear_, List.getElem?_toArray, List.getElem?_cons_zero, Sem.run_bind, hu, Result.andThen, Pure.pure, Sem.run]
      | succ n =>
        simp only [Builtin.clear_, List.getElem?_toArray, List.getElem?_cons_zero, Sem.run_bind, hu, Result.andThen, Pure.pure, Sem.run, hz, ez', hzc, hr]
    have := run_builtin_of (P := C.P) (ρ := ac.eval) (b := .clear) (xs := #[x]) (ts := #[T]) (w := w) (d := dst) (ty := ty) (pos := pos) (af := af) (gd := gd) (n := .value (.tuple #[])) (w' := w') (by
      simp only [builtin, List.map_toArray, List.map_cons, List.map_nil, hf.ev hx]
      rw [Sem.run_bind, hrun]; rfl)
    rw [this]
    exact kk _ _ _ ⟨rfl, rfl⟩ hs2⟩
end append
end Go.Sep
