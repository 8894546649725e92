/-
  Our own: from what a law's function does to its row: arguments that read as they did; what numbers, structs and slices that are handed in hold.
-/
import Derived.Test.YtiiefnnllcghmaaJi
import Derived.WalkKit
import Derived.ProofKit
import Derived.OpenShut
import Derived.ChangeOld
import Derived.Below
import Derived.SizedLaws
import Derived.Carry
import Derived.Lib.SmallJoins
set_option linter.unusedVariables false
namespace Go.Sep
open Go.ChangeShapes Go.WideShapes Go.ChangeAt Go.RowKit Go.Joins Go.Deep

section
variable {H : Type} {enc : TypeId × Value → H} {P : Program}
theorem trodAll_below (hl : laidOutB P = true) {W W' : World} (hb : Below W.heap.size W W') : ∀ {ts : List TypeId} {vs : List Value} {ds : List (DataW H)} {ps : List MemPlace},
    (ts.all fun t => P.readableRec t && Nat.blt t P.types.size) = true → DataW.TrodAll enc P W 0 (fun _ => true) true ts vs ds ps → (∀ x ∈ ps, x.block < W.heap.size) →
    DataW.TrodAll enc P W' 0 (fun b => decide (b < W.heap.size)) true ts vs ds ps
  | [], vs, ds, ps, _, h, _ => by obtain ⟨rfl, rfl, rfl⟩ := trodAll_nil h; rfl
  | t :: ts, vs, ds, ps, ht, h, hlt => by
    obtain ⟨v, vs, d, ds, p, q, rfl, rfl, rfl, h0, r0⟩ := trodAll_cons h
    simp only [List.all_cons, Bool.and_eq_true] at ht
    exact trodAll_cons_mk (Below.trod hl ht.1.1 (by simpa using ht.1.2) h0 hb fun x hx => hlt x (List.mem_append_left _ hx))
      (trodAll_below hl hb ht.2 r0 fun x hx => hlt x (List.mem_append_right _ hx))
theorem trodAll_len {W : World} {base : Nat} {sp : Nat → Bool} {held : Bool} : ∀ {ts : List TypeId} {vs : List Value} {ds : List (DataW H)} {ps : List MemPlace}, DataW.TrodAll enc P W base sp held ts vs ds ps → ds.length = ts.length
  | [], vs, ds, ps, h => by obtain ⟨rfl, rfl, rfl⟩ := trodAll_nil h; rfl
  | t :: ts, vs, ds, ps, h => by
    obtain ⟨v, vs, d, ds, p, q, rfl, rfl, rfl, h0, r0⟩ := trodAll_cons h
    simp [trodAll_len r0]
end

/-- A law's row, out of what its function does. -/
theorem law_lifted {C : Checked} {f : FuncId} {fn : Func} {s : ChangeSpec} {H : Type} {enc : TypeId × Value → H} (own : ownKnob C.prog.godebug = none) (os : Os) (started : os.Started) (noInit : C.prog.inits.idxOf? f = none) (hfn : C.prog.funcs[f]? = some fn)
    (hl : laidOutB C.prog = true) (hts : (fn.params.toList.all fun t => C.prog.readableRec t && Nat.blt t C.prog.types.size) = true) {tb : TypeId} (hr : fn.resultTypes = #[tb]) (hb : C.prog.underlying tb = some .bool) (hv : s.vars = [])
    (hfs : ∀ ds : List (DataW H), ds.length = fn.params.toList.length → s.fn H ds = { results := [.lit (.bool true)], args := ds })
    (witness : ∃ (w : World) (tape : Tape) (i : Input), w.os = os ∧ (w.forCall tape i).Shaped C.prog ∧ i.vars = [] ∧ Input.okWide C.prog (w.forCall tape i) .any w.heap.size f i ∧
      s.pre6 enc C.prog fn [] false (w.forCall tape i).memory i.args ∧ ({} : Assume).holds C.prog (lone (Frame.enter C.prog f i.args .normal) [] (w.forCall tape i)))
    (call : ∀ (W : World) (base : Nat) (args : Array Value) (ds : List (DataW H)) (ps : List MemPlace), (∀ (j : Nat) t v, fn.params[j]? = some t → args[j]? = some v → Value.okWide C.prog W .any base t v) →
      DataW.TrodAll enc C.prog W 0 (fun _ => true) true fn.params.toList args.toList ds ps → Calls C.prog f args W fun e W' => e = .returned (.bool true) ∧ Below W.heap.size W W') :
    ReturnsInHanded {} C os f .any (s.pre6 enc C.prog fn [] false) (s.post enc C.prog fn false true false false) := by
  refine returnsInHanded_of_change_sized own started noInit hfn witness ?_
  intro W base args ds gs before hval hW _ _ _
  have hW' := hW
  obtain ⟨p, q, hA, hV, rfl, hfz, hnd⟩ := hW
  rw [hv] at hV
  obtain ⟨rfl, rfl⟩ := trodVars_none hV
  refine (call W base args ds p hval hA).mono fun e W' ⟨he, bel⟩ => ?_
  subst he
  have hlen := trodAll_len hA
  refine ⟨_, rfl, ds, [], p ++ [], [], p, [], hW', ?_, ?_, ?_, bel.frame _, fun h => by cases h⟩
  · rw [List.append_nil, hfs ds hlen, hr]
    exact trodAll_mk1 (shut_bool hb true)
  · rw [List.append_nil, hfs ds hlen]
    exact trodAll_below hl bel hts hA fun x hx => hW'.lt x (List.mem_append_left _ hx)
  · rw [List.append_nil, hfs ds hlen, hv]
    rfl
/-- .. where the function's contract is over what lies there from the first. -/
theorem Does.calls {P : Program} {f : FuncId} {args : List Value} {W : World} {r : Value} (h : Does P f args [Low W] (fun v l => v = r ∧ l = [Low W])) : Calls P f args.toArray W fun e W' => e = .returned r ∧ Below W.heap.size W W' :=
  (h.2 W [] W (Sat.start W)).mono fun e w' ⟨v, l, he, ⟨h1, h2⟩, hs⟩ => by
    subst h1 h2
    exact ⟨he, Sat.below hs (List.mem_append_left _ (List.mem_cons_self ..))⟩
/-- A contract that asks for nothing. -/
theorem Does.frame {P : Program} {f : FuncId} {args : List Value} {r : Value} (h : Does P f args [] (fun v l => v = r ∧ l = [])) (p : HP) : Does P f args [p] (fun v l => v = r ∧ l = [p]) :=
  ⟨h.1, fun W fr w hs => (h.2 W ([p] ++ fr) w hs).mono fun e w' ⟨v, l, he, ⟨h1, h2⟩, hs'⟩ => by
    subst h1 h2
    exact ⟨_, _, he, ⟨rfl, rfl⟩, hs'⟩⟩

/-! ### What is handed in -/
section opens
variable {H : Type} {enc : TypeId × Value → H} {P : Program} {W : World} {base : Nat} {sp : Nat → Bool} {held : Bool}
theorem trod_int {t : TypeId} {k : IntKind} (ht : P.underlying t = some (.int k)) {n : Nat} {v : Value} {x : DataW H × List MemPlace} (h : DataW.trod enc P W base sp held n t [v] = some x) : ∃ m, v = .int k m ∧ (Lit.int k m).wf = true := by
  cases n with
  | zero => cases h
  | succ n =>
    unfold DataW.trod at h
    rw [ht] at h
    split at h <;> first | cases h | skip
    all_goals simp_all
/-- A struct of three numbers. -/
theorem open_ints3 {r : Reach} {b0 : Nat} {t : TypeId} {f0 f1 f2 : Field} {k0 k1 k2 : IntKind} {v : Value} {d : DataW H} {p : List MemPlace} (hs : P.underlying t = some (.struct #[f0, f1, f2])) (hone : oneCellFields P #[f0, f1, f2] = true) (hC : P.cellsOf t = 3)
    (e0 : P.underlying f0.type = some (.int k0)) (e1 : P.underlying f1.type = some (.int k1)) (e2 : P.underlying f2.type = some (.int k2))
    (hv : Value.okWide P W r b0 t v) (h : DataW.Trod enc P W base sp held t v d p) :
    ∃ a b c, v = .agg #[.int k0 a, .int k1 b, .int k2 c] ∧ (Lit.int k0 a).wf = true ∧ (Lit.int k1 b).wf = true ∧ (Lit.int k2 c).wf = true := by
  obtain ⟨v0, v1, v2, y0, y1, y2, n, rfl, _, _, h0, h1, h2⟩ := open_agg3 hs hone hC hv h
  obtain ⟨a, rfl, wa⟩ := trod_int e0 h0
  obtain ⟨b, rfl, wb⟩ := trod_int e1 h1
  obtain ⟨c, rfl, wc⟩ := trod_int e2 h2
  exact ⟨a, b, c, rfl, wa, wb, wc⟩
end opens
end Go.Sep
