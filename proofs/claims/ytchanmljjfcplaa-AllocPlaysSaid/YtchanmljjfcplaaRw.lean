/-
  Our own: from what a law's function does to its row: arguments that read as they did; what numbers, structs and slices that are handed in hold.
-/
import Derived.Test.YtchanmljjfcplaaJj
import Derived.ChangeArms
import Derived.WalkKit
import Derived.ProofKit
import Derived.OpenShut
import Derived.ChangeOld
import Derived.Below
import Derived.SizedLaws
import Derived.Carry
import Derived.Lib.SmallJoins
set_option linter.unusedVariables false
namespace Go.Sep
open Go.ChangeShapes Go.WideShapes Go.ChangeAt Go.RowKit Go.Joins Go.Deep

section
variable {H : Type} {enc : TypeId × Value → H} {P : Program}
theorem trodAll_below (hl : laidOutB P = true) {W W' : World} (hb : Below W.heap.size W W') : ∀ {ts : List TypeId} {vs : List Value} {ds : List (DataW H)} {ps : List MemPlace},
    (ts.all fun t => P.readableRec t && Nat.blt t P.types.size) = true → DataW.TrodAll enc P W 0 (fun _ => true) true ts vs ds ps → (∀ x ∈ ps, x.block < W.heap.size) →
    DataW.TrodAll enc P W' 0 (fun b => decide (b < W.heap.size)) true ts vs ds ps
  | [], vs, ds, ps, _, h, _ => by obtain ⟨rfl, rfl, rfl⟩ := trodAll_nil h; rfl
  | t :: ts, vs, ds, ps, ht, h, hlt => by
    obtain ⟨v, vs, d, ds, p, q, rfl, rfl, rfl, h0, r0⟩ := trodAll_cons h
    simp only [List.all_cons, Bool.and_eq_true] at ht
    exact trodAll_cons_mk (Below.trod hl ht.1.1 (by simpa using ht.1.2) h0 hb fun x hx => hlt x (List.mem_append_left _ hx))
      (trodAll_below hl hb ht.2 r0 fun x hx => hlt x (List.mem_append_right _ hx))
theorem trodAll_len {W : World} {base : Nat} {sp : Nat → Bool} {held : Bool} : ∀ {ts : List TypeId} {vs : List Value} {ds : List (DataW H)} {ps : List MemPlace}, DataW.TrodAll enc P W base sp held ts vs ds ps → ds.length = ts.length
  | [], vs, ds, ps, h => by obtain ⟨rfl, rfl, rfl⟩ := trodAll_nil h; rfl
  | t :: ts, vs, ds, ps, h => by
    obtain ⟨v, vs, d, ds, p, q, rfl, rfl, rfl, h0, r0⟩ := trodAll_cons h
    simp [trodAll_len r0]
end

/-- A law's row, out of what its function does. -/
theorem law_lifted {C : Checked} {f : FuncId} {fn : Func} {s : ChangeSpec} {H : Type} {enc : TypeId × Value → H} (own : ownKnob C.prog.godebug = none) (os : Os) (started : os.Started) (noInit : C.prog.inits.idxOf? f = none) (hfn : C.prog.funcs[f]? = some fn)
    (hl : laidOutB C.prog = true) (hts : (fn.params.toList.all fun t => C.prog.readableRec t && Nat.blt t C.prog.types.size) = true) {tb : TypeId} (hr : fn.resultTypes = #[tb]) (hb : C.prog.underlying tb = some .bool) (hv : s.vars = [])
    (hfs : ∀ ds : List (DataW H), ds.length = fn.params.toList.length → s.fn H ds = { results := [.lit (.bool true)], args := ds })
    (witness : ∃ (w : World) (tape : Tape) (i : Input), w.os = os ∧ (w.forCall tape i).Shaped C.prog ∧ i.vars = [] ∧ Input.okWide C.prog (w.forCall tape i) .any w.heap.size f i ∧
      s.pre6 enc C.prog fn [] false (w.forCall tape i).memory i.args ∧ ({} : Assume).holds C.prog (lone (Frame.enter C.prog f i.args .normal) [] (w.forCall tape i)))
    (call : ∀ (W : World) (base : Nat) (args : Array Value) (ds : List (DataW H)) (ps : List MemPlace), (∀ (j : Nat) t v, fn.params[j]? = some t → args[j]? = some v → Value.okWide C.prog W .any base t v) →
      DataW.TrodAll enc C.prog W 0 (fun _ => true) true fn.params.toList args.toList ds ps → Calls C.prog f args W fun e W' => e = .returned (.bool true) ∧ Below W.heap.size W W') :
    ReturnsInHanded {} C os f .any (s.pre6 enc C.prog fn [] false) (s.post enc C.prog fn false true false false) := by
  refine returnsInHanded_of_change_sized own started noInit hfn witness ?_
  intro W base args ds gs before hval hW _ _ _
  have hW' := hW
  obtain ⟨p, q, hA, hV, rfl, hfz, hnd⟩ := hW
  rw [hv] at hV
  obtain ⟨rfl, rfl⟩ := trodVars_none hV
  refine (call W base args ds p hval hA).mono fun e W' ⟨he, bel⟩ => ?_
  subst he
  have hlen := trodAll_len hA
  refine ⟨_, rfl, ds, [], p ++ [], [], p, [], hW', ?_, ?_, ?_, bel.frame _, fun h => by cases h⟩
  · rw [List.append_nil, hfs ds hlen, hr]
    exact trodAll_mk1 (shut_bool hb true)
  · rw [List.append_nil, hfs ds hlen]
    exact trodAll_below hl bel hts hA fun x hx => hW'.lt x (List.mem_append_left _ hx)
  · rw [List.append_nil, hfs ds hlen, hv]
    rfl
/-- .. where the function's contract is over what lies there from the first. -/
theorem Does.calls {P : Program} {f : FuncId} {args : List Value} {W : World} {r : Value} (h : Does P f args [Low W] (fun v l => v = r ∧ l = [Low W])) : Calls P f args.toArray W fun e W' => e = .returned r ∧ Below W.heap.size W W' :=
  (h.2 W [] W (Sat.start W)).mono fun e w' ⟨v, l, he, ⟨h1, h2⟩, hs⟩ => by
    subst h1 h2
    exact ⟨he, Sat.below hs (List.mem_append_left _ (List.mem_cons_self ..))⟩
/-- A contract that asks for nothing. -/
theorem Does.frame {P : Program} {f : FuncId} {args : List Value} {r : Value} (h : Does P f args [] (fun v l => v = r ∧ l = [])) (p : HP) : Does P f args [p] (fun v l => v = r ∧ l = [p]) :=
  ⟨h.1, fun W fr w hs => (h.2 W ([p] ++ fr) w hs).mono fun e w' ⟨v, l, he, ⟨h1, h2⟩, hs'⟩ => by
    subst h1 h2
    exact ⟨_, _, he, ⟨rfl, rfl⟩, hs'⟩⟩

/-! ### What is handed in -/
section opens
variable {H : Type} {enc : TypeId × Value → H} {P : Program} {W : World} {base : Nat} {sp : Nat → Bool} {held : Bool}
theorem trod_int {t : TypeId} {k : IntKind} (ht : P.underlying t = some (.int k)) {n : Nat} {v : Value} {x : DataW H × List MemPlace} (h : DataW.trod enc P W base sp held n t [v] = some x) : ∃ m, v = .int k m ∧ (Lit.int k m).wf = true := by
  cases n with
  | zero => cases h
  | succ n =>
    unfold DataW.trod at h
    rw [ht] at h
    split at h <;> first | cases h | skip
    all_goals simp_all
/-- A struct of three numbers. -/
theorem open_ints3 {r : Reach} {b0 : Nat} {t : TypeId} {f0 f1 f2 : Field} {k0 k1 k2 : IntKind} {v : Value} {d : DataW H} {p : List MemPlace} (hs : P.underlying t = some (.struct #[f0, f1, f2])) (hone : oneCellFields P #[f0, f1, f2] = true) (hC : P.cellsOf t = 3)
    (e0 : P.underlying f0.type = some (.int k0)) (e1 : P.underlying f1.type = some (.int k1)) (e2 : P.underlying f2.type = some (.int k2))
    (hv : Value.okWide P W r b0 t v) (h : DataW.Trod enc P W base sp held t v d p) :
    ∃ a b c, v = .agg #[.int k0 a, .int k1 b, .int k2 c] ∧ (Lit.int k0 a).wf = true ∧ (Lit.int k1 b).wf = true ∧ (Lit.int k2 c).wf = true := by
  obtain ⟨v0, v1, v2, y0, y1, y2, n, rfl, _, _, h0, h1, h2⟩ := open_agg3 hs hone hC hv h
  obtain ⟨a, rfl, wa⟩ := trod_int e0 h0
  obtain ⟨b, rfl, wb⟩ := trod_int e1 h1
  obtain ⟨c, rfl, wc⟩ := trod_int e2 h2
  exact ⟨a, b, c, rfl, wa, wb, wc⟩
theorem exists_list {α : Type} {Q : Nat → α → Prop} : ∀ (m : Nat), (∀ i, i < m → ∃ y, Q i y) → ∃ L : List α, L.length = m ∧ ∀ i y, L[i]? = some y → Q i y
  | 0, _ => ⟨[], rfl, fun i y h => by simp at h⟩
  | m + 1, h => by
    obtain ⟨L, hl, hL⟩ := exists_list m (fun i hi => h i (by omega))
    obtain ⟨y, hy⟩ := h m (by omega)
    refine ⟨L ++ [y], by simp [hl], fun i z hz => ?_⟩
    rcases Nat.lt_or_ge i m with hi | hi
    · rw [List.getElem?_append_left (by omega)] at hz; exact hL i z hz
    · rw [List.getElem?_append_right (by omega)] at hz
      obtain ⟨h1, h2⟩ := List.getElem?_eq_some_iff.1 hz
      simp at h1 h2
      have : i = m := by omega
      subst this; rw [← h2]; exact hy
theorem flat_get {α : Type} {f : α → List Value} {sz : Nat} : ∀ {ys : List α}, (∀ y ∈ ys, (f y).length = sz) → ∀ {q r : Nat} {y : α}, ys[q]? = some y → r < sz → (ys.flatMap f)[q * sz + r]? = (f y)[r]?
  | [], _, q, r, y, h, _ => by simp at h
  | x :: ys, hf, q, r, y, h, hr => by
    have hx : (f x).length = sz := hf x (List.mem_cons_self ..)
    cases q with
    | zero =>
      simp at h; subst h
      rw [List.flatMap_cons, Nat.zero_mul, Nat.zero_add, List.getElem?_append_left (by omega)]
    | succ q =>
      have h' : ys[q]? = some y := by simpa using h
      rw [List.flatMap_cons, List.getElem?_append_right (by rw [hx, Nat.succ_mul]; omega), hx, show (q + 1) * sz + r - sz = q * sz + r by rw [Nat.succ_mul]; omega]
      exact flat_get (fun y hy => hf y (List.mem_cons_of_mem _ hy)) h' hr
theorem flat_len {α : Type} {f : α → List Value} {sz : Nat} : ∀ {ys : List α}, (∀ y ∈ ys, (f y).length = sz) → (ys.flatMap f).length = ys.length * sz
  | [], _ => by simp
  | x :: ys, hf => by
    rw [List.flatMap_cons, List.length_append, hf x (List.mem_cons_self ..), flat_len (fun y hy => hf y (List.mem_cons_of_mem _ hy)), List.length_cons, Nat.succ_mul]; omega
/-- A slice that is handed in, and its elements. -/
theorem open_slice {α : Type} (f : α → List Value) (Q : α → Prop) {r : Reach} {b0 : Nat} {t e sz : Nat} {v : Value} {d : DataW H} {p : List MemPlace} (ht : P.underlying t = some (.slice e)) (hsz : P.cellsOf e = sz) (hpos : 0 < sz)
    (rd : ∀ n cs x, cs.length = sz → DataW.trod enc P W base sp held n e cs = some x → ∃ y, cs = f y ∧ Q y) (hv : Value.okWide P W r b0 t v) (h : DataW.Trod enc P W base sp held t v d p) :
    ∃ a m cap, ∃ ys : List α, v = .slice a m cap ∧ ys.length = m ∧ Reads (Low W) sz m a cap (ys.flatMap f) ∧ (∀ y ∈ ys, Q y) ∧ m ≤ cap ∧ cap ≤ maxLen := by
  obtain ⟨a, m, cap, rfl⟩ := okWide_slice ht hv
  obtain ⟨fuel, hf⟩ := h
  rcases DataW.trod_slice ht hf with ⟨hc, _⟩ | ⟨a', len, cap', elems, rest, n, _, hc, _, hb, hlc, hcm, hlen, hel, _⟩
  · simp [Value.cells] at hc
    obtain ⟨rfl, rfl, rfl⟩ := hc
    exact ⟨none, 0, 0, [], rfl, rfl, Reads.nil, (fun y hy => by cases hy), Nat.le_refl _, by decide⟩
  · simp [Value.cells] at hc
    obtain ⟨rfl, rfl, rfl⟩ := hc
    have key : ∀ i, i < m → ∃ y, Q y ∧ (f y).length = sz ∧ a'.block < W.heap.size ∧ ∀ j, j < sz → W.cell? ((a'.add (i * sz)).add j) = (f y)[j]? := by
      intro i hi
      have h1 := hel i hi
      rw [hsz] at h1
      obtain ⟨x, hx⟩ : ∃ x, elems[i]? = some x := ⟨elems[i]'(by omega), List.getElem?_eq_getElem _⟩
      rw [hx] at h1
      obtain ⟨cs, hcs, hxx⟩ := Option.bind_eq_some_iff.1 h1
      obtain ⟨_, hl, hcell⟩ := World.cells?_some hcs
      obtain ⟨y, rfl, hy⟩ := rd _ _ _ hl hxx
      have e : (a'.add (i * sz)).block = a'.block := by unfold Addr.add; split <;> rfl
      have hbk := World.cells?_block hcs hpos
      rw [e] at hbk
      exact ⟨y, hy, hl, hbk, hcell⟩
    obtain ⟨ys, hyl, hys⟩ := exists_list m key
    have hQ : ∀ y ∈ ys, Q y ∧ (f y).length = sz := fun y hy => by
      obtain ⟨i, hi⟩ := List.getElem?_of_mem hy
      exact ⟨(hys i y hi).1, (hys i y hi).2.1⟩
    refine ⟨some a', m, cap, ys, rfl, hyl, ?_, fun y hy => (hQ y hy).1, hlc, hcm⟩
    obtain ⟨b, o, spot⟩ := a'
    refine ⟨by rw [flat_len fun y hy => (hQ y hy).2, hyl], (fun h => by cases h), fun W' l w hs hm i hi => ?_⟩
    have hq : i / sz < m := (Nat.div_lt_iff_lt_mul hpos).2 hi
    obtain ⟨y, hy⟩ : ∃ y, ys[i / sz]? = some y := ⟨ys[i / sz]'(by omega), List.getElem?_eq_getElem _⟩
    obtain ⟨_, hfl, hbk, hcell⟩ := hys _ _ hy
    have hr : i % sz < sz := Nat.mod_lt _ hpos
    have h1 := hcell _ hr
    have hi' : i / sz * sz + i % sz = i := by rw [Nat.mul_comm]; exact Nat.div_add_mod ..
    have h2 := flat_get (f := f) (fun y hy => (hQ y hy).2) hy hr
    rw [hi'] at h2
    have hsp : spot = none := by
      cases spot with
      | none => rfl
      | some k =>
        obtain ⟨y0, hy0⟩ : ∃ y, ys[0]? = some y := ⟨ys[0]'(by rw [hyl]; exact Nat.lt_of_le_of_lt (Nat.zero_le _) hq), List.getElem?_eq_getElem _⟩
        obtain ⟨_, hfl0, _, hcell0⟩ := hys _ _ hy0
        have h0 := hcell0 0 hpos
        have e0 : ((⟨b, o, some k⟩ : Addr).add (0 * sz)).add 0 = ⟨b, o, some k⟩ := by simp [Addr.add]
        rw [e0] at h0
        have : W.cell? ⟨b, o, some k⟩ = none := by simp [World.cell?]; split <;> simp
        rw [this, List.getElem?_eq_getElem (by omega)] at h0
        cases h0
    subst hsp
    have h3 : W.cell? ⟨b, o + i, none⟩ = (ys.flatMap f)[i]? := by
      rw [h2, ← h1, addr_add, addr_add]; congr 2; omega
    refine ⟨b, o, rfl, ?_⟩
    rw [← h3]
    exact World.cell?_of_block (w := W) (hs.low hm hbk)
theorem flat_map {α : Type} (f : α → Value) (l : List α) : l.flatMap (fun y => [f y]) = l.map f := by
  induction l with
  | nil => rfl
  | cons x l ih => simp [ih]
/-- A slice of numbers that is handed in. -/
theorem open_intSlice {k : IntKind} {r : Reach} {b0 : Nat} {t e : Nat} {v : Value} {d : DataW H} {p : List MemPlace} (ht : P.underlying t = some (.slice e)) (he : P.underlying e = some (.int k)) (hsz : P.cellsOf e = 1)
    (hv : Value.okWide P W r b0 t v) (h : DataW.Trod enc P W base sp held t v d p) :
    ∃ a cap, ∃ zs : List Int, v = .slice a zs.length cap ∧ Reads (Low W) 1 zs.length a cap (zs.map (Value.int k)) ∧ (∀ z ∈ zs, (Lit.int k z).wf = true) ∧ zs.length ≤ cap ∧ cap ≤ maxLen := by
  obtain ⟨a, m, cap, zs, rfl, rfl, h1, h2, h3, h4⟩ := open_slice (fun z => [Value.int k z]) (fun z => (Lit.int k z).wf = true) ht hsz (by decide) (fun n cs x hl hx => by
    obtain ⟨c, rfl⟩ := List.length_eq_one_iff.1 hl
    obtain ⟨m, rfl, hm⟩ := trod_int he hx
    exact ⟨m, rfl, hm⟩) hv h
  rw [flat_map] at h1
  exact ⟨a, cap, zs, rfl, h1, h2, h3, h4⟩
end opens
end Go.Sep
