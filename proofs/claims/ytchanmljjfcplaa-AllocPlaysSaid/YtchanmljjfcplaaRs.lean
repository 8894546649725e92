/-
  Our own: structs of numbers, whatever structs they are nested in, that are handed in: the numbers.
-/
import Derived.Test.YtchanmljjfcplaaRw
set_option linter.unusedVariables false
namespace Go.Sep
open Go.ChangeShapes Go.WideShapes Go.ChangeAt Go.RowKit Go.Joins Go.Deep

def leafFs (P : Program) (rec : TypeId → Option (List IntKind)) : List Field → Nat → Option (List IntKind)
  | [], _ => some []
  | f :: r, o => match rec f.type with
    | some ks => bif Nat.beq f.offset o && Nat.beq (P.cellsOf f.type) ks.length then
        (match leafFs P rec r (o + ks.length) with
        | some ks' => some (ks ++ ks')
        | none => none) else none
    | none => none
/-- The kinds of the numbers that a type's values consist of. -/
def leafK (P : Program) : Nat → TypeId → Option (List IntKind)
  | 0, _ => none
  | n + 1, t => match P.underlying t with
    | some (.int k) => some [k]
    | some (.struct fs) => leafFs P (leafK P n) fs.toList 0
    | _ => none
def leafV : List IntKind → List Int → List Value
  | k :: ks, n :: ns => .int k n :: leafV ks ns
  | _, _ => []
def leafW : List IntKind → List Int → Prop
  | k :: ks, n :: ns => (Lit.int k n).wf = true ∧ leafW ks ns
  | _, _ => True
theorem leafV_app {ks ks' : List IntKind} : ∀ {ns ns' : List Int}, ns.length = ks.length → leafV (ks ++ ks') (ns ++ ns') = leafV ks ns ++ leafV ks' ns' := by
  induction ks with
  | nil => intro ns ns' h; simp at h; subst h; rfl
  | cons k ks ih =>
    intro ns ns' h
    cases ns with
    | nil => simp at h
    | cons n ns => simp only [List.cons_append, leafV]; rw [ih (by simpa using h)]
theorem leafW_app {ks ks' : List IntKind} : ∀ {ns ns' : List Int}, ns.length = ks.length → leafW ks ns → leafW ks' ns' → leafW (ks ++ ks') (ns ++ ns') := by
  induction ks with
  | nil => intro ns ns' h _ h2; simp at h; subst h; exact h2
  | cons k ks ih =>
    intro ns ns' h h1 h2
    cases ns with
    | nil => simp at h
    | cons n ns => exact ⟨h1.1, ih (by simpa using h) h1.2 h2⟩
theorem leafV_len {ks : List IntKind} : ∀ {ns : List Int}, ns.length = ks.length → (leafV ks ns).length = ks.length := by
  induction ks with
  | nil => intro ns h; rfl
  | cons k ks ih =>
    intro ns h
    cases ns with
    | nil => simp at h
    | cons n ns => simp only [leafV, List.length_cons]; rw [ih (by simpa using h)]
section
variable {H : Type} {enc : TypeId × Value → H} {P : Program} {W : World} {base : Nat} {sp : Nat → Bool} {held : Bool}
theorem leafFs_spec {rec : TypeId → Option (List IntKind)} (hrec : ∀ t ks, rec t = some ks → ∀ (n : Nat) (cs : List Value) x, cs.length = ks.length → DataW.trod enc P W base sp held n t cs = some x → ∃ ns, cs = leafV ks ns ∧ ns.length = ks.length ∧ leafW ks ns) :
    ∀ (fs : List Field) (o : Nat) (ks : List IntKind), leafFs P rec fs o = some ks → ∀ (n : Nat) (cs : List Value), cs.length = o + ks.length →
      (∀ f ∈ fs, ∃ y, DataW.trod enc P W base sp held n f.type ((cs.drop f.offset).take (P.cellsOf f.type)) = some y) → ∃ ns, cs.drop o = leafV ks ns ∧ ns.length = ks.length ∧ leafW ks ns
  | [], o, ks, h, n, cs, hl, _ => by
    simp [leafFs] at h; subst h
    exact ⟨[], by rw [List.drop_eq_nil_of_le (by simpa using Nat.le_of_eq hl)]; rfl, rfl, trivial⟩
  | f :: r, o, ks, h, n, cs, hl, hf => by
    simp only [leafFs] at h
    split at h
    · rename_i k1 h1
      cases hb : Nat.beq f.offset o && Nat.beq (P.cellsOf f.type) k1.length with
      | false => simp [hb] at h
      | true =>
        simp only [hb, cond_true] at h
        simp only [Bool.and_eq_true] at hb
        have e1 := Nat.eq_of_beq_eq_true hb.1
        have e2 := Nat.eq_of_beq_eq_true hb.2
        split at h
        · rename_i k2 h2
          injection h with h; subst h
          simp only [List.length_append] at hl
          obtain ⟨y, hy⟩ := hf f (List.mem_cons_self ..)
          rw [e1, e2] at hy
          obtain ⟨ns1, a1, a2, a3⟩ := hrec _ _ h1 n _ y (by simp; omega) hy
          obtain ⟨ns2, b1, b2, b3⟩ := leafFs_spec hrec r (o + k1.length) k2 h2 n cs (by omega) (fun f' hf' => hf f' (List.mem_cons_of_mem _ hf'))
          refine ⟨ns1 ++ ns2, ?_, by simp [a2, b2], leafW_app a2 a3 b3⟩
          rw [leafV_app a2, ← a1, ← b1, ← List.drop_drop, List.take_append_drop]
        · cases h
    · cases h
theorem leafK_spec : ∀ (m : Nat) (t : TypeId) (ks : List IntKind), leafK P m t = some ks → ∀ (n : Nat) (cs : List Value) x, cs.length = ks.length → DataW.trod enc P W base sp held n t cs = some x → ∃ ns, cs = leafV ks ns ∧ ns.length = ks.length ∧ leafW ks ns
  | 0, _, _, h => by cases h
  | m + 1, t, ks, h => by
    intro n cs x hl hx
    simp only [leafK] at h
    split at h
    · rename_i k hu
      injection h with h; subst h
      obtain ⟨v, rfl, _, hw⟩ := DataW.trod_int hu hx
      exact ⟨[v], rfl, rfl, hw, trivial⟩
    · rename_i fs hu
      obtain ⟨xs, n', _, _, _, hlen, hf⟩ := DataW.trod_struct hu hx
      obtain ⟨ns, h1, h2, h3⟩ := leafFs_spec (leafK_spec m) fs.toList 0 ks h n' cs (by omega) (fun f hm => by
        obtain ⟨i, hi⟩ := List.getElem?_of_mem hm
        have hi' : fs[i]? = some f := by simpa using hi
        have := hf i f hi'
        have hlt := (Array.getElem?_eq_some_iff.1 hi').1
        exact ⟨xs[i]'(by omega), by rw [this, List.getElem?_eq_getElem]⟩)
      exact ⟨ns, by simpa using h1, h2, h3⟩
    · cases h
/-- A slice of structs of numbers that is handed in: the rows of their numbers. -/
theorem open_leafSlice {r : Reach} {b0 : Nat} {t e : Nat} {ks : List IntKind} {v : Value} {d : DataW H} {p : List MemPlace} (m : Nat) (ht : P.underlying t = some (.slice e)) (hk : leafK P m e = some ks) (hsz : P.cellsOf e = ks.length) (hpos : 0 < ks.length)
    (hv : Value.okWide P W r b0 t v) (h : DataW.Trod enc P W base sp held t v d p) :
    ∃ a cap, ∃ ys : List (List Int), v = .slice a ys.length cap ∧ Reads (Low W) ks.length ys.length a cap (ys.flatMap (leafV ks)) ∧ (∀ y ∈ ys, y.length = ks.length ∧ leafW ks y) ∧ ys.length ≤ cap ∧ cap ≤ maxLen := by
  obtain ⟨a, m, cap, ys, rfl, rfl, h1, h2, h3, h4⟩ := open_slice (leafV ks) (fun y => y.length = ks.length ∧ leafW ks y) ht hsz hpos (fun n cs x hl hx => by
    obtain ⟨ns, e1, e2, e3⟩ := leafK_spec m e ks hk n cs x hl hx
    exact ⟨ns, e1, e2, e3⟩) hv h
  exact ⟨a, cap, ys, rfl, h1, h2, h3, h4⟩
/-- A struct of numbers that is handed in. -/
theorem open_leaf {r : Reach} {b0 : Nat} {t : Nat} {fs : Array Field} {ks : List IntKind} {v : Value} {d : DataW H} {p : List MemPlace} (m : Nat) (hu : P.underlying t = some (.struct fs)) (hk : leafK P m t = some ks) (hsz : P.cellsOf t = ks.length)
    (hv : Value.okWide P W r b0 t v) (h : DataW.Trod enc P W base sp held t v d p) : ∃ ns : List Int, v = .agg (leafV ks ns).toArray ∧ ns.length = ks.length ∧ leafW ks ns := by
  obtain ⟨cs, rfl, hs⟩ := okWide_struct hu hv
  obtain ⟨fuel, hf⟩ := h
  have hl : (Value.cells (.agg cs)).toList.length = ks.length := by simpa [Value.cells] using hs.trans hsz
  obtain ⟨ns, e1, e2, e3⟩ := leafK_spec m t ks hk fuel _ _ hl hf
  refine ⟨ns, ?_, e2, e3⟩
  rw [← e1]; simp [Value.cells]
end
/-- One element's cells. -/
theorem flat_take {α : Type} {f : α → List Value} {sz : Nat} {ys : List α} (hf : ∀ y ∈ ys, (f y).length = sz) {i : Nat} {y : α} (h : ys[i]? = some y) : takeL (ys.flatMap f) (i * sz) sz = some (f y) := by
  have hi := (List.getElem?_eq_some_iff.1 h).1
  have hl := flat_len hf
  have hy : (f y).length = sz := hf y (List.mem_of_getElem? h)
  have hle : i * sz + sz ≤ ys.length * sz := by
    have := Nat.mul_le_mul_right sz hi
    rw [Nat.succ_eq_add_one, Nat.add_mul, Nat.one_mul] at this; exact this
  rw [takeL_eq (by omega)]
  congr 1
  apply List.ext_getElem?
  intro r
  by_cases hr : r < sz
  · rw [List.getElem?_take_of_lt hr, List.getElem?_drop, flat_get hf h hr]
  · rw [List.getElem?_eq_none (l := f y) (by omega), List.getElem?_eq_none]
    simp; omega
end Go.Sep
