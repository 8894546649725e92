/-
  Our own, over any program: regions that draw their order of evaluation, walked in one order of ours.
-/
import Derived.Test.YtchanmljjfcplaaJd
import Derived.Deep.Quiet
set_option linter.unusedSimpArgs false
set_option linter.unusedVariables false
namespace Go.Sep
open Go.RowKit

/-- No select, no defer among the operations. -/
structure Tame (ops : Array Oper) : Prop where
  sel : ∀ (j : Nat) (o : Oper) cs b, ops[j]? = some o → o.op ≠ .select cs b
  dfr : ∀ (j : Nat) (o : Oper) c, ops[j]? = some o → o.op ≠ .defer c
def tameB (ops : Array Oper) : Bool := ops.all fun o => match o.op with
  | .select _ _ => false
  | .defer _ => false
  | _ => true
theorem tameB_spec {ops : Array Oper} (h : tameB ops = true) : Tame ops := by
  refine ⟨fun j o cs b ho e => ?_, fun j o c ho e => ?_⟩
  · have := Array.all_eq_true_iff_forall_mem.1 h o (Array.mem_of_getElem? ho)
    simp [e] at this
  · have := Array.all_eq_true_iff_forall_mem.1 h o (Array.mem_of_getElem? ho)
    simp [e] at this

section draws
variable {r : Option Nat} {P : Program} {ops : Array Oper} {Q : Post} {Kw : World → Prop}

/-- In all worlds of the class the operation yields v, and leaves the world. -/
def YieldsK (P : Program) (ops : Array Oper) (Kw : World → Prop) (o : Oper) (v : Value) (a : Act) : Prop :=
  (Region.wanted o (yielded ops a.tmps) = true ∧ ∀ w, Kw w → (execOp a.eval o).run P w = .ok (.value v) w) ∨ (Region.wanted o (yielded ops a.tmps) = false ∧ v = undef)
theorem YieldsK.of_same {o : Oper} {v : Value} {a a' : Act} (hy : YieldsK P ops Kw o v a) (he : execOp a'.eval o = execOp a.eval o)
    (hw : Region.wanted o (yielded ops a'.tmps) = Region.wanted o (yielded ops a.tmps)) : YieldsK P ops Kw o v a' := by
  unfold YieldsK at *
  rw [he, hw]
  exact hy
/-- All orders, the class kept. -/
def wpAK (r : Option Nat) (P : Program) (ops : Array Oper) (Q : Post) (Kw : World → Prop) : Nat → Array Bool → Act → World → Prop
  | 0, listed, a, w => Kw w ∧ Region.ready .any ops listed = [] ∧ Q .normal a w
  | fuel + 1, listed, a, w => Kw w ∧ (Region.ready .any ops listed = [] → Q .normal a w) ∧ ∀ i ∈ Region.ready .any ops listed, wpOpIn (FR r) 0 P ops Q i (wpAK r P ops Q Kw fuel (listed.setIfInBounds i true)) a w
theorem wpAK.kept : ∀ {fuel : Nat} {listed : Array Bool} {a : Act} {w : World}, wpAK r P ops Q Kw fuel listed a w → Kw w
  | 0, _, _, _, h => h.1
  | _ + 1, _, _, _, h => h.1
theorem wpAK.any : ∀ {fuel : Nat} {listed : Array Bool} {a : Act} {w : World}, wpAK r P ops Q Kw fuel listed a w → wpAnyIn (FR r) 0 P .any ops Q fuel listed a w
  | 0, _, _, _, h => ⟨h.2.1, h.2.2⟩
  | _ + 1, _, _, _, h => ⟨h.2.1, fun i hi => wpOpIn_mono (fun _ _ h3 => h3.any) (h.2.2 i hi)⟩

/-- An operation that yields v in every world: another one ahead of it, or behind it. -/
theorem wOp_put {j : Nat} {oi oj : Oper} {v : Value} (T : Tame ops) (hsi : ∀ cs b, oi.op ≠ .select cs b) (hj : ops[j]? = some oj) (hap : oi.apart ops oj = true)
    (hQ : ∀ c a w, ¬ Q (.panic c) a w) {K : Act → World → Prop} {a : Act} {w : World} (hy : YieldsK P ops Kw oi v a)
    (h : wpOpIn (FR r) 0 P ops Q j K (a.put oi.dst v) w) : wpOpIn (FR r) 0 P ops Q j (fun a' w' => YieldsK P ops Kw oi v a' ∧ K (a'.put oi.dst v) w') a w := by
  obtain ⟨h1, h2, h3⟩ := Oper.apart_spec hap
  have hsj := fun cs b => T.sel j oj cs b hj
  have hdj := fun c => T.dfr j oj c hj
  have keep : ∀ (b : Act) (u : Value), YieldsK P ops Kw oi v b → YieldsK P ops Kw oi v (b.put oj.dst u) := fun b u hb =>
    hb.of_same (execOp_put oi hsi b oj.dst u h3) (wanted_put oi b oj.dst u h3)
  have keepD : ∀ d, YieldsK P ops Kw oi v { a with defers := d :: a.defers } := fun d => hy.of_same rfl rfl
  have go : ∀ (u : Value) (w' : World), K ((a.put oi.dst v).put oj.dst u) w' → YieldsK P ops Kw oi v (a.put oj.dst u) ∧ K ((a.put oj.dst u).put oi.dst v) w' := fun u w' hk =>
    ⟨keep a u hy, by rw [← Act.put_comm a v u h2]; exact hk⟩
  unfold wpOpIn at *
  simp only [hj] at *
  rw [wanted_put oj a oi.dst v h1] at h
  by_cases hw : Region.wanted oj (yielded ops a.tmps) = true
  · rw [if_pos hw] at h ⊢
    refine ⟨fun _ _ => trivial, ?_⟩
    have h := h.2
    rw [Oper.semAt_eq _ _ _ hdj, execOp_put oj hsj a oi.dst v h1] at h
    rw [Oper.semAt_eq _ _ _ hdj]
    generalize (execOp a.eval oj).run P w = res at *
    cases res with
    | ok x w' =>
      cases x <;> simp only [Oper.uponIn] at h ⊢
      case value u => exact go u w' h
      case skip => exact go _ w' h
      case defer d =>
        refine ⟨keep _ _ (keepD d), ?_⟩
        rw [← Act.put_comm _ v undef h2, ← Act.put_defers]
        exact h
      case enter f args =>
        refine ⟨h.1, CallsIn.mono h.2 fun e w'' he => ?_⟩
        cases e with
        | returned u => exact go u w'' he
        | panicked c => exact absurd he (hQ _ _ _)
        | outgrown => exact he
      case row row args => exact ⟨h.1, RowsIn.mono h.2 fun u w'' he => go u w'' he⟩
      case round l f tmps assign body =>
        refine ⟨h.1, RoundIn.mono h.2 fun e w'' he => ?_⟩
        cases e with
        | returned u => exact go u w'' he
        | panicked c => exact absurd he (hQ _ _ _)
        | outgrown => exact he
    | halt x w' =>
      cases x <;> simp only [Oper.uponIn] at h ⊢
      case panic u => exact absurd h (hQ _ _ _)
  · rw [if_neg hw] at h ⊢
    exact ⟨fun _ _ => trivial, go _ w h.2⟩
theorem wOp_of_yields {i : Nat} {oi : Oper} {v : Value} {a : Act} {w : World} {K : Act → World → Prop} (T : Tame ops) (hi : ops[i]? = some oi) (hy : YieldsK P ops Kw oi v a) (hKw : Kw w) (h : K (a.put oi.dst v) w) :
    wpOpIn (FR r) 0 P ops Q i K a w := by
  unfold wpOpIn
  simp only [hi]
  rcases hy with ⟨hw, hv⟩ | ⟨hw, rfl⟩
  · rw [if_pos hw]
    refine ⟨fun _ _ => trivial, ?_⟩
    rw [Oper.semAt_eq _ _ _ (fun c => T.dfr i oi c hi), hv w hKw]
    exact h
  · rw [if_neg (by simp [hw])]
    exact ⟨fun _ _ => trivial, h⟩

/-- Whatever comes up is apart from i, or waits for it. -/
def FreeAt (ops : Array Oper) (listed : Array Bool) (i : Nat) (oi : Oper) : Prop :=
  ∀ j oj, ops[j]? = some oj → j ≠ i → listed.getD j true = false → (∀ e ∈ oj.after, Region.binds .any e = true → e.on ≠ i) → oi.apart ops oj = true
theorem FreeAt.set {listed : Array Bool} {i j : Nat} {oi : Oper} (h : FreeAt ops listed i oi) (hj : listed.getD j true = false) : FreeAt ops (listed.setIfInBounds j true) i oi := fun k ok hk hki hun hno => by
  refine h k ok hk hki ?_ hno
  by_cases e : j = k
  · subst e; exact hj
  · rw [getD_set_ne true e] at hun; exact hun
theorem ready_no_edge {listed : Array Bool} {i j : Nat} {oj : Oper} (hr : i ∈ Region.ready .any ops listed) (hj : j ∈ Region.ready .any ops listed) (hoj : ops[j]? = some oj) :
    ∀ e ∈ oj.after, Region.binds .any e = true → e.on ≠ i := by
  intro e he hb heq
  obtain ⟨hjun, oj', hoj', hall⟩ := mem_ready.1 hj
  have : oj' = oj := Option.some.inj (hoj'.symm.trans hoj)
  subst this
  have h1 := hall e he hb
  have h0 := (mem_ready.1 hr).1
  rw [heq] at h1
  rcases Nat.lt_or_ge i listed.size with h' | h'
  · simp [h'] at h0 h1; rw [h0] at h1; cases h1
  · simp [Array.getElem?_eq_none h'] at h1

/-- An operation that yields v in all worlds of the class that is kept may be taken first. -/
theorem wAny_first {i : Nat} {oi : Oper} {v : Value} (T : Tame ops) (hi : ops[i]? = some oi) (hQ : ∀ c a w, ¬ Q (.panic c) a w) :
    ∀ (fuel : Nat) (listed : Array Bool) (a : Act) (w : World), FreeAt ops listed i oi → i ∈ Region.ready .any ops listed → YieldsK P ops Kw oi v a →
      wpAK r P ops Q Kw fuel (listed.setIfInBounds i true) (a.put oi.dst v) w → wpAK r P ops Q Kw (fuel + 1) listed a w := by
  intro fuel
  induction fuel with
  | zero =>
    intro listed a w _ hr hy H
    refine ⟨H.1, fun h => (by rw [h] at hr; cases hr), fun j hj => ?_⟩
    by_cases hji : j = i
    · subst hji; exact wOp_of_yields T hi hy H.1 H
    · have := ready_mono hj hji
      rw [H.2.1] at this
      cases this
  | succ fuel ih =>
    intro listed a w hfree hr hy H
    refine ⟨H.1, fun h => (by rw [h] at hr; cases hr), fun j hj => ?_⟩
    by_cases hji : j = i
    · subst hji; exact wOp_of_yields T hi hy H.1 H
    · obtain ⟨hjun, oj, hoj, _⟩ := mem_ready.1 hj
      have h2 := wOp_put T (fun cs b => T.sel i oi cs b hi) hoj (hfree j oj hoj hji hjun (ready_no_edge hr hj hoj)) hQ hy (H.2.2 j (ready_mono hj hji))
      refine wpOpIn_mono (fun a' w' h3 => ih (listed.setIfInBounds j true) a' w' (hfree.set hjun) (ready_mono hr (Ne.symm hji)) h3.1 ?_) h2
      rw [Array.setIfInBounds_comm _ _ hji]
      exact h3.2

/-- An order is drawn; the operations of which 'hs' holds leave the class of worlds. -/
def wpM (r : Option Nat) (P : Program) (ops : Array Oper) (Q : Post) (Kw : World → Prop) (hs : Nat → Bool) (Cw : World → Prop) : Nat → Array Bool → Act → Prop
  | 0, listed, a => Region.ready .any ops listed = [] ∧ ∀ w, Cw w → Q .normal a w
  | fuel + 1, listed, a => (Region.ready .any ops listed = [] → ∀ w, Cw w → Q .normal a w) ∧ ∀ i ∈ Region.ready .any ops listed,
      (hs i = true → qOp P ops Cw i (wpM r P ops Q Kw hs Cw fuel (listed.setIfInBounds i true)) a) ∧
      (hs i = false → ∀ w, Cw w → wpOpIn (FR r) 0 P ops Q i (wpAK r P ops Q Kw fuel (listed.setIfInBounds i true)) a w)

theorem wOp_of_qOp {i : Nat} {a : Act} {Cw : World → Prop} {K : Act → Prop} {K' : Act → World → Prop} {w : World} (T : Tame ops) (hC : Cw w) (h : ∀ a w', Cw w' → K a → K' a w') (hh : qOp P ops Cw i K a) :
    wpOpIn (FR r) 0 P ops Q i K' a w := by
  unfold qOp at hh
  unfold wpOpIn
  cases ho : ops[i]? with
  | none => simp only [ho] at hh ⊢; exact h _ _ hC hh
  | some o =>
    simp only [ho] at hh ⊢
    by_cases hw : Region.wanted o (yielded ops a.tmps) = true
    · rw [if_pos hw] at hh ⊢
      obtain ⟨v, h1, h2⟩ := hh
      refine ⟨fun _ _ => trivial, ?_⟩
      rw [Oper.semAt_eq _ _ _ (fun c => T.dfr i o c ho)]
      have h3 := h1 w hC
      unfold Oper.quietAt at h3
      generalize (execOp a.eval o).run P w = res at *
      cases res with
      | ok n w' =>
        cases n <;> simp only [Oper.quietUpon] at h3 <;> simp only [Oper.uponIn]
        case value u => obtain ⟨e1, e2⟩ := h3; rw [e1, e2]; exact h _ _ hC h2
        case skip => obtain ⟨e1, e2⟩ := h3; rw [e1, ← e2]; exact h _ _ hC h2
        case enter f args =>
          obtain ⟨e1, hc⟩ := h3
          rw [e1]
          refine ⟨fun h => (by cases h), (callsIn_wide (n := 0 - 1)).2 (hc.mono fun e w'' ⟨he, hw''⟩ => ?_)⟩
          subst he
          exact h _ _ hw'' h2
      | halt x w' => simp only [Oper.quietUpon] at h3
    · rw [if_neg hw] at hh ⊢
      exact ⟨fun _ _ => trivial, h _ _ hC hh⟩
theorem wAny_of_wpM {hs : Nat → Bool} {Cw : World → Prop} (T : Tame ops) (hK : ∀ w, Cw w → Kw w) : ∀ (fuel : Nat) (listed : Array Bool) (a : Act) (w : World), Cw w → wpM r P ops Q Kw hs Cw fuel listed a → wpAK r P ops Q Kw fuel listed a w
  | 0, _, _, w, hC, h => ⟨hK w hC, h.1, h.2 w hC⟩
  | fuel + 1, listed, a, w, hC, h => ⟨hK w hC, fun h0 => h.1 h0 w hC, fun i hi => by
      cases hb : hs i with
      | true => exact wOp_of_qOp T hC (fun a' w' hC' hk => wAny_of_wpM T hK fuel _ a' w' hC' hk) ((h.2 i hi).1 hb)
      | false => exact (h.2 i hi).2 hb w hC⟩

/-- What has been done has had all ahead of it done. -/
def Closed (ops : Array Oper) (listed : Array Bool) : Prop := ∀ j oj, ops[j]? = some oj → listed.getD j false = true → ∀ e ∈ oj.after, Region.binds .any e = true → listed.getD e.on false = true
theorem Closed.set {listed : Array Bool} {i : Nat} (h : Closed ops listed) (hi : i ∈ Region.ready .any ops listed) : Closed ops (listed.setIfInBounds i true) := by
  intro j oj hj hl e he hb
  by_cases hij : i = j
  · subst hij
    obtain ⟨_, oi, hoi, hall⟩ := mem_ready.1 hi
    have : oi = oj := Option.some.inj (hoi.symm.trans hj)
    subst this
    exact getD_set_true (hall e he hb)
  · rw [getD_set_ne false hij] at hl
    exact getD_set_true (h j oj hj hl e he hb)
/-- All of these wait for i, or for others of them. -/
def Wait (ops : Array Oper) (i : Nat) (ds : List Nat) : Prop := ∀ j ∈ ds, ∃ oj, ops[j]? = some oj ∧ ∃ e ∈ oj.after, Region.binds .any e = true ∧ e.on < j ∧ (e.on = i ∨ e.on ∈ ds)
theorem Wait.unlisted {i : Nat} {ds : List Nat} {listed : Array Bool} (h : Wait ops i ds) (hc : Closed ops listed) (hi : listed.getD i false = false) : ∀ j ∈ ds, listed.getD j false = false := by
  intro j
  induction j using Nat.strongRecOn with
  | _ j ih =>
    intro hj
    cases hb : listed.getD j false with
    | false => rfl
    | true =>
      obtain ⟨oj, hoj, e, he, hbd, hlt, hd⟩ := h j hj
      have h1 := hc j oj hoj hb e he hbd
      rcases hd with hd | hd
      · rw [hd, hi] at h1; cases h1
      · rw [ih e.on hlt hd] at h1; cases h1
theorem Wait.notReady {i : Nat} {ds : List Nat} {listed : Array Bool} (h : Wait ops i ds) (hc : Closed ops listed) (hi : listed.getD i false = false) {j : Nat} (hj : j ∈ ds) : j ∉ Region.ready .any ops listed := by
  intro hr
  obtain ⟨oj, hoj, e, he, hbd, hlt, hd⟩ := h j hj
  obtain ⟨_, oj', hoj', hall⟩ := mem_ready.1 hr
  have : oj' = oj := Option.some.inj (hoj'.symm.trans hoj)
  subst this
  have h1 := hall e he hbd
  rcases hd with hd | hd
  · rw [hd, hi] at h1; cases h1
  · rw [h.unlisted hc hi e.on hd] at h1; cases h1
theorem unlisted_false {listed : Array Bool} {i : Nat} (h : listed.getD i true = false) : listed.getD i false = false := by
  rcases Nat.lt_or_ge i listed.size with h' | h'
  · simp [h'] at h ⊢; exact h
  · simp [Array.getElem?_eq_none h'] at h

/-- An operation that yields v in all worlds of the class may be taken first: it does so in every world, or what leaves the class waits for it. -/
theorem wpM_first {i : Nat} {oi : Oper} {v : Value} {hs : Nat → Bool} {Cw : World → Prop} (T : Tame ops) (hi : ops[i]? = some oi) (hQ : ∀ c a w, ¬ Q (.panic c) a w) (hsi : hs i = true) (pure : Prop) {ds : List Nat} (hw : Wait ops i ds) :
    ∀ (fuel : Nat) (listed : Array Bool) (a : Act), FreeAt ops listed i oi → i ∈ Region.ready .any ops listed → Closed ops listed →
      (pure ∨ ∀ j oj, ops[j]? = some oj → listed.getD j true = false → hs j = false → j ∈ ds) →
      YieldsIn P ops Cw oi v a → (pure → YieldsK P ops Kw oi v a) →
      wpM r P ops Q Kw hs Cw fuel (listed.setIfInBounds i true) (a.put oi.dst v) → wpM r P ops Q Kw hs Cw (fuel + 1) listed a := by
  intro fuel
  induction fuel with
  | zero =>
    intro listed a _ hr _ _ hy _ H
    refine ⟨fun h => (by rw [h] at hr; cases hr), fun j hj => ?_⟩
    by_cases hji : j = i
    · subst hji; exact ⟨fun _ => hy.qOp hi H, fun h => (by rw [hsi] at h; cases h)⟩
    · have := ready_mono hj hji
      rw [H.1] at this
      cases this
  | succ fuel ih =>
    intro listed a hfree hr hcl hp hy hyp H
    refine ⟨fun h => (by rw [h] at hr; cases hr), fun j hj => ?_⟩
    by_cases hji : j = i
    · subst hji; exact ⟨fun _ => hy.qOp hi H, fun h => (by rw [hsi] at h; cases h)⟩
    · obtain ⟨hjun, oj, hoj, _⟩ := mem_ready.1 hj
      have hap := hfree j oj hoj hji hjun (ready_no_edge hr hj hoj)
      obtain ⟨h1, h2, h3⟩ := Oper.apart_spec hap
      have hsel := fun cs b => T.sel i oi cs b hi
      have hselj := fun cs b => T.sel j oj cs b hoj
      refine ⟨fun hb => ?_, fun hb => ?_⟩
      · obtain ⟨u, hu, hK⟩ := yieldsIn_of_qOp hoj (((H.2 j (ready_mono hj hji)).1 hb))
        have hu' : YieldsIn P ops Cw oj u a := hu.of_same (execOp_put oj hselj a oi.dst v h1).symm (wanted_put oj a oi.dst v h1).symm
        refine hu'.qOp hoj (ih _ _ (hfree.set hjun) (ready_mono hr (Ne.symm hji)) (hcl.set hj) ?_ ?_ ?_ ?_)
        · rcases hp with hp | hp
          · exact .inl hp
          · refine .inr fun k ok hk hun hsk => hp k ok hk ?_ hsk
            by_cases e : j = k
            · subst e; exact hjun
            · rw [getD_set_ne true e] at hun; exact hun
        · exact hy.of_same (execOp_put oi hsel a oj.dst u h3) (wanted_put oi a oj.dst u h3)
        · exact fun p => (hyp p).of_same (execOp_put oi hsel a oj.dst u h3) (wanted_put oi a oj.dst u h3)
        · rw [← Act.put_comm a v u h2, Array.setIfInBounds_comm _ _ hji]; exact hK
      · intro w hC
        have hpu : pure := by
          rcases hp with hp | hp
          · exact hp
          · exact absurd hj (hw.notReady hcl (unlisted_false (mem_ready.1 hr).1) (hp j oj hoj hjun hb))
        have h4 := wOp_put T hsel hoj hap hQ (hyp hpu) ((H.2 j (ready_mono hj hji)).2 hb w hC)
        refine wpOpIn_mono (fun a' w' h5 => wAny_first T hi hQ fuel _ a' w' (hfree.set hjun) (ready_mono hr (Ne.symm hji)) h5.1 ?_) h4
        rw [Array.setIfInBounds_comm _ _ hji]
        exact h5.2
end draws

/-! ### The look at an order: kinds 0 (yields in every world), 1 (leaves the assertions), 2 (else) -/
def dsOf (ops : Array Oper) (i : Nat) : List Nat :=
  (List.range ops.size).foldl (fun ds j => match ops[j]? with
    | some oj => if oj.after.any (fun e => Region.binds .any e && decide (e.on < j) && (e.on == i || ds.contains e.on)) then j :: ds else ds
    | none => ds) []
def waitB (ops : Array Oper) (i : Nat) (ds : List Nat) : Bool :=
  ds.all fun j => match ops[j]? with
    | some oj => oj.after.any fun e => Region.binds .any e && decide (e.on < j) && (e.on == i || ds.contains e.on)
    | none => false
theorem waitB_spec {ops : Array Oper} {i : Nat} {ds : List Nat} (h : waitB ops i ds = true) : Wait ops i ds := by
  intro j hj
  have h1 := List.all_eq_true.1 h j hj
  split at h1
  · rename_i oj hoj
    obtain ⟨e, he, hb⟩ := Array.any_eq_true'.1 h1
    simp only [Bool.and_eq_true, Bool.or_eq_true, beq_iff_eq, decide_eq_true_eq, List.contains_iff_mem] at hb
    exact ⟨oj, hoj, e, he, hb.1.1, hb.1.2, hb.2⟩
  · cases h1
def kindAt (ks : List Nat) (i : Nat) : Nat := (nth ks i).getD 2
def hsOf (ks : List Nat) (i : Nat) : Bool := Nat.blt (kindAt ks i) 2 || Nat.beq (kindAt ks i) 5
theorem hsOf_of {ks : List Nat} {i : Nat} (h : Nat.blt (kindAt ks i) 2 = true) : hsOf ks i = true := by simp [hsOf, h]
def chk (ops : Array Oper) (ks : List Nat) : List Nat → Array Bool → Bool
  | [], listed => (Region.ready .any ops listed).isEmpty
  | i :: rest, listed =>
    (match kindAt ks i with
      | 0 => Region.free .any ops listed i && (Region.ready .any ops listed).contains i
      | 1 => Region.free .any ops listed i && (Region.ready .any ops listed).contains i && waitB ops i (dsOf ops i) &&
          (List.range ops.size).all fun j => listed.getD j true || hsOf ks j || (dsOf ops i).contains j
      | 3 => (match rest with
          | j :: _ => (Region.ready .any ops listed == [i, j] || Region.ready .any ops listed == [j, i]) && (Region.ready .any ops (listed.setIfInBounds i true) == [j]) &&
              (Region.ready .any ops (listed.setIfInBounds j true) == [i]) && Nat.beq (kindAt ks j) 4
          | [] => false)
      | 4 => true
      | 5 => Region.free .any ops listed i && (Region.ready .any ops listed).contains i
      | _ => Region.ready .any ops listed == [i]) && chk ops ks rest (listed.setIfInBounds i true)

/-- The operations of an order that are still to come. -/
structure JX (C : Ctx) (opl : List Oper) (Q : Post) (kp : List HP) (ks order : List Nat) (g : Regs) (l : List HP) : Prop where
  out : Tame opl.toArray → (∀ c a w, ¬ Q (.panic c) a w) → (∀ w, Sat C.W (l ++ C.fr) w → Sat C.W kp w) → ∀ listed, chk opl.toArray ks order listed = true → Closed opl.toArray listed →
    ∀ a, Fits C g a → wpM C.r C.P opl.toArray Q (Sat C.W kp) (hsOf ks) (Sat C.W (l ++ C.fr)) order.length listed a
/-- Nothing of it panics. -/
def NP (Q : Post) : Post := fun e a w => match e with
  | .panic _ => False
  | _ => Q e a w

theorem J_drawk {C : Ctx} {opl : List Oper} {Q : Post} {g : Regs} {l : List HP} {id : Nat} (kp : List HP) (hkp : ∀ H, Stars l H → Stars kp H) (ks order : List Nat) (hm : C.P.follows .mixedOrders = true)
    (hc : (tameB opl.toArray && Nat.beq order.length opl.length && chk opl.toArray ks order (Array.replicate opl.length false)) = true)
    (h : JX C opl (NP Q) kp ks order g l) : J C (.region id opl.toArray true) Q g l := by
  simp only [Bool.and_eq_true] at hc
  obtain ⟨⟨ht, hlen⟩, hc⟩ := hc
  refine ⟨fun a w hf hs => ?_⟩
  have T := tameB_spec ht
  have hcl : Closed opl.toArray (Array.replicate opl.length false) := by
    intro j oj hj hl
    exfalso
    rcases Nat.lt_or_ge j opl.length with h' | h'
    · simp [h'] at hl
    · simp [h'] at hl
  have hK : ∀ w, Sat C.W (l ++ C.fr) w → Sat C.W kp w := fun w hw => hw.to fun H k => hkp H k.left
  have h1 := h.out T (fun c a w h => h) hK _ hc hcl a hf
  refine wpIn_mono (Q := NP Q) ?_ (fun e a w hq => by cases e <;> first | exact hq | exact hq.elim)
  refine wpIn_region_any hm ?_
  have e : opl.toArray.size = order.length := by simpa using (Nat.eq_of_beq_eq_true hlen).symm
  rw [e]
  have e2 : Array.replicate order.length false = Array.replicate opl.length false := by rw [Nat.eq_of_beq_eq_true hlen]
  rw [e2]
  exact (wAny_of_wpM T hK _ _ a _ (hs.drawn _) h1).any
theorem J_draw {C : Ctx} {opl : List Oper} {Q : Post} {g : Regs} {l : List HP} {id : Nat} (ks order : List Nat) (hm : C.P.follows .mixedOrders = true)
    (hc : (tameB opl.toArray && Nat.beq order.length opl.length && chk opl.toArray ks order (Array.replicate opl.length false)) = true)
    (h : JX C opl (NP Q) [] ks order g l) : J C (.region id opl.toArray true) Q g l := J_drawk [] (fun _ _ => trivial) ks order hm hc h
/-- The operation, in all worlds of these assertions, yields v and leaves the world. -/
structure OpK (C : Ctx) (g : Regs) (kp : List HP) (o : Op) (v : Value) : Prop where
  out : ∀ (dst : Option Tmp) (ty : TypeId) (pos : String) (af : Array Edge) (gd : Option (Nat × Bool)) (a : Act), Fits C g a → ∀ w, Sat C.W kp w →
    (execOp a.eval ⟨dst, o, ty, pos, af, gd⟩).run C.P w = .ok (.value v) w

section rules
variable {C : Ctx} {opl : List Oper} {Q : Post} {kp : List HP} {ks rest : List Nat} {g : Regs} {l : List HP} {i : Nat} {o : Op} {ty : TypeId} {pos : String} {af : Array Edge} {gd : Option (Nat × Bool)} {d : Tmp} {dst : Option Tmp}

theorem JX_nil (h : At C (Q .normal) g l) : JX C opl Q kp ks [] g l := by
  refine ⟨fun T hQ hK listed hc hcl a hf => ?_⟩
  simp only [chk, List.isEmpty_iff] at hc
  exact ⟨hc, fun w hw => h.out a w hf hw⟩
theorem At_np {g' : Regs} (h : At C (Q .normal) g' l) : At C (NP Q .normal) g' l := ⟨h.out⟩

theorem JX_take {v : Value} {g' : Regs} (hi : nth opl i = some ⟨dst, o, ty, pos, af, gd⟩) (hk : hsOf ks i = true)
    (hy : ∀ a, Fits C g a → YieldsIn C.P opl.toArray (Sat C.W (l ++ C.fr)) ⟨dst, o, ty, pos, af, gd⟩ v a)
    (hp : kindAt ks i ≠ 1 → ∀ a, Fits C g a → YieldsK C.P opl.toArray (Sat C.W kp) ⟨dst, o, ty, pos, af, gd⟩ v a)
    (hg : ∀ a, Fits C g a → Fits C g' (a.put dst v)) (k : JX C opl Q kp ks rest g' l) : JX C opl Q kp ks (i :: rest) g l := by
  refine ⟨fun T hQ hK listed hc hcl a hf => ?_⟩
  have hi' : opl.toArray[i]? = some ⟨dst, o, ty, pos, af, gd⟩ := by rw [List.getElem?_toArray, ← nth_eq]; exact hi
  simp only [chk, Bool.and_eq_true] at hc
  obtain ⟨hc1, hc2⟩ := hc
  have hlt : kindAt ks i < 2 ∨ kindAt ks i = 5 := by
    simp only [hsOf, Bool.or_eq_true] at hk
    rcases hk with hk | hk
    · exact .inl (Nat.blt_eq ▸ hk)
    · exact .inr (Nat.eq_of_beq_eq_true hk)
  have hready : i ∈ Region.ready .any opl.toArray listed ∧ Region.free .any opl.toArray listed i = true := by
    split at hc1
    · simp only [Bool.and_eq_true, List.contains_iff_mem] at hc1; exact ⟨hc1.2, hc1.1⟩
    · simp only [Bool.and_eq_true, List.contains_iff_mem] at hc1; exact ⟨hc1.1.1.2, hc1.1.1.1⟩
    · exfalso; omega
    · exfalso; omega
    · simp only [Bool.and_eq_true, List.contains_iff_mem] at hc1; exact ⟨hc1.2, hc1.1⟩
    · rename_i h0 h1 _ _ h5
      have : kindAt ks i = 0 ∨ kindAt ks i = 1 ∨ kindAt ks i = 5 := by omega
      rcases this with e | e | e
      · exact absurd e h0
      · exact absurd e h1
      · exact absurd e h5
  have hrest := k.out T hQ hK _ hc2 (hcl.set hready.1) _ (hg a hf)
  by_cases h1 : kindAt ks i = 1
  case neg => exact wpM_first T hi' hQ hk True (ds := []) (fun _ h => by cases h) _ listed a (Region.free_spec hi' hready.2) hready.1 hcl (.inl trivial) (hy a hf) (fun _ => hp h1 a hf) hrest
  case pos =>
    simp only [h1, Bool.and_eq_true, List.all_eq_true, List.mem_range, Bool.or_eq_true, List.contains_iff_mem] at hc1
    refine wpM_first T hi' hQ hk False (ds := dsOf opl.toArray i) (waitB_spec hc1.1.2) _ listed a (Region.free_spec hi' hready.2) hready.1 hcl (.inr fun j oj hj hun hsj => ?_) (hy a hf) (fun p => p.elim) hrest
    have h2 := hc1.2 j (Array.getElem?_eq_some_iff.1 hj).1
    rcases h2 with (h2 | h2) | h2
    · rw [hun] at h2; cases h2
    · rw [hsj] at h2; cases h2
    · exact h2

theorem JX_val {v : Value} (hi : nth opl i = some ⟨some d, o, ty, pos, af, gd⟩) (hk : Nat.blt (kindAt ks i) 2 = true) (h : OpV C g o v) (hw : gw opl g gd = some true) (hN : Nat.blt d C.N = true) (k : JX C opl Q kp ks rest ((d, v) :: g) l) : JX C opl Q kp ks (i :: rest) g l :=
  JX_take hi (hsOf_of hk) (fun a hf => .inl ⟨gw_true (o := ⟨some d, o, ty, pos, af, gd⟩) hf hw, fun w _ => by unfold Oper.quietAt; rw [h.2 _ _ _ _ _ a w hf]; exact ⟨rfl, rfl⟩⟩)
    (fun _ a hf => .inl ⟨gw_true (o := ⟨some d, o, ty, pos, af, gd⟩) hf hw, fun w _ => h.2 _ _ _ _ _ a w hf⟩) (fun a hf => hf.put hN) k
theorem JX_v {v : Value} (hi : nth opl i = some ⟨some d, o, ty, pos, af, gd⟩) (hk : Nat.blt (kindAt ks i) 2 = true) (h : pureOp C.ti g o = some v) (hw : gw opl g gd = some true) (hN : Nat.blt d C.N = true) (k : JX C opl Q kp ks rest ((d, v) :: g) l) : JX C opl Q kp ks (i :: rest) g l :=
  JX_val hi hk (pureOp_sound h) hw hN k
theorem JX_skip (hi : nth opl i = some ⟨some d, o, ty, pos, af, gd⟩) (hk : Nat.blt (kindAt ks i) 2 = true) (hw : gw opl g gd = some false) (hN : Nat.blt d C.N = true) (k : JX C opl Q kp ks rest ((d, undef) :: g) l) : JX C opl Q kp ks (i :: rest) g l :=
  JX_take hi (hsOf_of hk) (fun a hf => .inr ⟨gw_false (o := ⟨some d, o, ty, pos, af, gd⟩) hf hw, rfl⟩) (fun _ a hf => .inr ⟨gw_false (o := ⟨some d, o, ty, pos, af, gd⟩) hf hw, rfl⟩) (fun a hf => hf.put hN) k
theorem JX_q {v : Value} (hi : nth opl i = some ⟨some d, o, ty, pos, af, gd⟩) (hk : kindAt ks i = 1) (h : OpQ C g l o v) (hw : gw opl g gd = some true) (hN : Nat.blt d C.N = true) (k : JX C opl Q kp ks rest ((d, v) :: g) l) : JX C opl Q kp ks (i :: rest) g l :=
  JX_take hi (hsOf_of (by rw [hk]; rfl)) (fun a hf => .inl ⟨gw_true (o := ⟨some d, o, ty, pos, af, gd⟩) hf hw, fun w hs => h.out _ _ _ _ _ a hf w hs⟩)
    (fun h0 => absurd hk h0) (fun a hf => hf.put hN) k
theorem JX_loudk {R : Value → List HP → Prop} {g' : Value → Regs} (hi : nth opl i = some ⟨dst, o, ty, pos, af, gd⟩) (hk : kindAt ks i = 2) (h : OpL C g l o R) (hw : gw opl g gd = some true)
    (hg : ∀ v a, Fits C g a → Fits C (g' v) (a.put dst v)) (hkp : ∀ v l', R v l' → ∀ H, Stars l' H → Stars kp H) (k : ∀ v l', R v l' → (∃ w, Sat C.W (l' ++ C.fr) w) → JX C opl Q kp ks rest (g' v) l') : JX C opl Q kp ks (i :: rest) g l := by
  refine ⟨fun T hQ hK listed hc hcl a hf => ?_⟩
  have hi' : opl.toArray[i]? = some ⟨dst, o, ty, pos, af, gd⟩ := by rw [List.getElem?_toArray, ← nth_eq]; exact hi
  simp only [chk, hk, Bool.and_eq_true, beq_iff_eq] at hc
  obtain ⟨hc1, hc2⟩ := hc
  have hr : i ∈ Region.ready .any opl.toArray listed := by rw [hc1]; exact List.mem_cons_self ..
  have hns : hsOf ks i = false := by unfold hsOf; rw [hk]; rfl
  refine ⟨fun h0 => (by rw [hc1] at h0; cases h0), fun j hj => ?_⟩
  rw [hc1] at hj
  have : j = i := by simpa using hj
  subst this
  refine ⟨fun hb => (by rw [hns] at hb; cases hb), fun _ w hC => ?_⟩
  unfold wpOpIn
  simp only [hi']
  rw [if_pos (gw_true (o := ⟨dst, o, ty, pos, af, gd⟩) hf hw)]
  refine wpIn_of_upon h.nd (h.out _ _ _ _ _ a w hf hC _ _ fun v l' w' hrr hs' => ?_)
  have hK' : ∀ w, Sat C.W (l' ++ C.fr) w → Sat C.W kp w := fun w hw => hw.to fun H k => hkp v l' hrr H k.left
  exact wAny_of_wpM T hK' _ _ _ _ hs' ((k v l' hrr ⟨w', hs'⟩).out T hQ hK' _ hc2 (hcl.set hr) _ (hg v a hf))
theorem JX_loud {R : Value → List HP → Prop} {g' : Value → Regs} (hi : nth opl i = some ⟨dst, o, ty, pos, af, gd⟩) (hk : kindAt ks i = 2) (h : OpL C g l o R) (hw : gw opl g gd = some true)
    (hg : ∀ v a, Fits C g a → Fits C (g' v) (a.put dst v)) (k : ∀ v l', R v l' → JX C opl Q [] ks rest (g' v) l') : JX C opl Q [] ks (i :: rest) g l := JX_loudk hi hk h hw hg (fun _ _ _ _ _ => trivial) (fun v l' hr _ => k v l' hr)
theorem JX_l {R : Value → List HP → Prop} (hi : nth opl i = some ⟨some d, o, ty, pos, af, gd⟩) (hk : kindAt ks i = 2) (h : OpL C g l o R) (hw : gw opl g gd = some true) (hN : Nat.blt d C.N = true)
    (k : ∀ v l', R v l' → JX C opl Q [] ks rest ((d, v) :: g) l') : JX C opl Q [] ks (i :: rest) g l :=
  JX_loud hi hk h hw (fun v a hf => hf.put hN) k
theorem JX_l0 {R : Value → List HP → Prop} (hi : nth opl i = some ⟨none, o, ty, pos, af, gd⟩) (hk : kindAt ks i = 2) (h : OpL C g l o R) (hw : gw opl g gd = some true)
    (k : ∀ v l', R v l' → JX C opl Q [] ks rest g l') : JX C opl Q [] ks (i :: rest) g l :=
  JX_loud (g' := fun _ => g) hi hk h hw (fun v a hf => hf) k
theorem JX_lk {R : Value → List HP → Prop} (hi : nth opl i = some ⟨some d, o, ty, pos, af, gd⟩) (hk : kindAt ks i = 2) (h : OpL C g l o R) (hw : gw opl g gd = some true) (hN : Nat.blt d C.N = true)
    (hkp : ∀ v l', R v l' → ∀ H, Stars l' H → Stars kp H) (k : ∀ v l', R v l' → (∃ w, Sat C.W (l' ++ C.fr) w) → JX C opl Q kp ks rest ((d, v) :: g) l') : JX C opl Q kp ks (i :: rest) g l :=
  JX_loudk hi hk h hw (fun v a hf => hf.put hN) hkp k
theorem JX_l0k {R : Value → List HP → Prop} (hi : nth opl i = some ⟨none, o, ty, pos, af, gd⟩) (hk : kindAt ks i = 2) (h : OpL C g l o R) (hw : gw opl g gd = some true)
    (hkp : ∀ v l', R v l' → ∀ H, Stars l' H → Stars kp H) (k : ∀ v l', R v l' → (∃ w, Sat C.W (l' ++ C.fr) w) → JX C opl Q kp ks rest g l') : JX C opl Q kp ks (i :: rest) g l :=
  JX_loudk (g' := fun _ => g) hi hk h hw (fun v a hf => hf) hkp k
/-- A read of what is kept. -/
theorem JX_kept {v : Value} (hi : nth opl i = some ⟨some d, o, ty, pos, af, gd⟩) (hk : kindAt ks i = 5) (h : OpK C g kp o v) (hw : gw opl g gd = some true) (hN : Nat.blt d C.N = true) (k : JX C opl Q kp ks rest ((d, v) :: g) l) : JX C opl Q kp ks (i :: rest) g l := by
  refine ⟨fun T hQ hK listed hc hcl a hf => ?_⟩
  exact (JX_take hi (by simp [hsOf, hk]) (fun a hf => .inl ⟨gw_true (o := ⟨some d, o, ty, pos, af, gd⟩) hf hw, fun w hs => by unfold Oper.quietAt; rw [h.out _ _ _ _ _ a hf w (hK w hs)]; exact ⟨rfl, rfl⟩⟩)
    (fun _ a hf => .inl ⟨gw_true (o := ⟨some d, o, ty, pos, af, gd⟩) hf hw, fun w hs => h.out _ _ _ _ _ a hf w hs⟩) (fun a hf => hf.put hN) k).out T hQ hK listed hc hcl a hf
/-! a Bool that is moved -/
theorem JX_veq {v v' : Value} (hi : nth opl i = some ⟨some d, o, ty, pos, af, gd⟩) (hk : Nat.blt (kindAt ks i) 2 = true) (h : pureOp C.ti g o = some v) (e : v = v') (hw : gw opl g gd = some true) (hN : Nat.blt d C.N = true) (k : JX C opl Q kp ks rest ((d, v') :: g) l) : JX C opl Q kp ks (i :: rest) g l :=
  JX_v hi hk h hw hN (e ▸ k)
theorem JX_mt {x : Operand} {φ : Prop} [Decidable φ] (hi : nth opl i = some ⟨some d, .move x, ty, pos, af, gd⟩) (hk : Nat.blt (kindAt ks i) 2 = true) (h : ev g x = some (.bool (decide φ))) (e : φ) (hw : gw opl g gd = some true) (hN : Nat.blt d C.N = true) (k : JX C opl Q kp ks rest ((d, .bool true) :: g) l) : JX C opl Q kp ks (i :: rest) g l :=
  JX_v (v := .bool true) hi hk (by show ev g x = _; simpa [e] using h) hw hN k
theorem JX_mf {x : Operand} {φ : Prop} [Decidable φ] (hi : nth opl i = some ⟨some d, .move x, ty, pos, af, gd⟩) (hk : Nat.blt (kindAt ks i) 2 = true) (h : ev g x = some (.bool (decide φ))) (e : ¬ φ) (hw : gw opl g gd = some true) (hN : Nat.blt d C.N = true) (k : JX C opl Q kp ks rest ((d, .bool false) :: g) l) : JX C opl Q kp ks (i :: rest) g l :=
  JX_v (v := .bool false) hi hk (by show ev g x = _; simpa [e] using h) hw hN k
theorem JX_mb {x : Operand} {φ : Prop} [Decidable φ] (hi : nth opl i = some ⟨some d, .move x, ty, pos, af, gd⟩) (hk : Nat.blt (kindAt ks i) 2 = true) (h : ev g x = some (.bool (decide φ))) (hw : gw opl g gd = some true) (hN : Nat.blt d C.N = true) (k1 : φ → JX C opl Q kp ks rest ((d, .bool true) :: g) l) (k2 : ¬ φ → JX C opl Q kp ks rest ((d, .bool false) :: g) l) : JX C opl Q kp ks (i :: rest) g l := by
  by_cases e : φ
  · exact JX_mt hi hk h e hw hN (k1 e)
  · exact JX_mf hi hk h e hw hN (k2 e)
theorem JX_nt {x : Operand} {φ : Prop} [Decidable φ] (hi : nth opl i = some ⟨some d, .move x, ty, pos, af, gd⟩) (hk : Nat.blt (kindAt ks i) 2 = true) (h : ev g x = some (.bool (!decide φ))) (e : ¬ φ) (hw : gw opl g gd = some true) (hN : Nat.blt d C.N = true) (k : JX C opl Q kp ks rest ((d, .bool true) :: g) l) : JX C opl Q kp ks (i :: rest) g l :=
  JX_v (v := .bool true) hi hk (by show ev g x = _; simpa [e] using h) hw hN k
theorem JX_nf {x : Operand} {φ : Prop} [Decidable φ] (hi : nth opl i = some ⟨some d, .move x, ty, pos, af, gd⟩) (hk : Nat.blt (kindAt ks i) 2 = true) (h : ev g x = some (.bool (!decide φ))) (e : φ) (hw : gw opl g gd = some true) (hN : Nat.blt d C.N = true) (k : JX C opl Q kp ks rest ((d, .bool false) :: g) l) : JX C opl Q kp ks (i :: rest) g l :=
  JX_v (v := .bool false) hi hk (by show ev g x = _; simpa [e] using h) hw hN k
theorem JX_nb {x : Operand} {φ : Prop} [Decidable φ] (hi : nth opl i = some ⟨some d, .move x, ty, pos, af, gd⟩) (hk : Nat.blt (kindAt ks i) 2 = true) (h : ev g x = some (.bool (!decide φ))) (hw : gw opl g gd = some true) (hN : Nat.blt d C.N = true) (k1 : ¬ φ → JX C opl Q kp ks rest ((d, .bool true) :: g) l) (k2 : φ → JX C opl Q kp ks rest ((d, .bool false) :: g) l) : JX C opl Q kp ks (i :: rest) g l := by
  by_cases e : φ
  · exact JX_nf hi hk h e hw hN (k2 e)
  · exact JX_nt hi hk h e hw hN (k1 e)
/-- One operation alone is ready. -/
theorem wpM_one {R : Value → List HP → Prop} {g' : Value → Regs} {listed : Array Bool} {fuel : Nat} {a : Act} (T : Tame opl.toArray) (hcl : Closed opl.toArray listed) (hr : Region.ready .any opl.toArray listed = [i])
    (hi : nth opl i = some ⟨dst, o, ty, pos, af, gd⟩) (hk : hsOf ks i = false) (h : OpL C g l o R) (hw : gw opl g gd = some true) (hg : ∀ v a, Fits C g a → Fits C (g' v) (a.put dst v)) (hf : Fits C g a)
    (k : ∀ v l' a', R v l' → Fits C (g' v) a' → Closed opl.toArray (listed.setIfInBounds i true) → wpM C.r C.P opl.toArray Q (Sat C.W []) (hsOf ks) (Sat C.W (l' ++ C.fr)) fuel (listed.setIfInBounds i true) a') :
    wpM C.r C.P opl.toArray Q (Sat C.W []) (hsOf ks) (Sat C.W (l ++ C.fr)) (fuel + 1) listed a := by
  have hi' : opl.toArray[i]? = some ⟨dst, o, ty, pos, af, gd⟩ := by rw [List.getElem?_toArray, ← nth_eq]; exact hi
  have hri : i ∈ Region.ready .any opl.toArray listed := by rw [hr]; exact List.mem_cons_self ..
  have hns : hsOf ks i = false := hk
  refine ⟨fun h0 => (by rw [hr] at h0; cases h0), fun j hj => ?_⟩
  rw [hr] at hj
  have : j = i := by simpa using hj
  subst this
  refine ⟨fun hb => (by rw [hns] at hb; cases hb), fun _ w hC => ?_⟩
  unfold wpOpIn
  simp only [hi']
  rw [if_pos (gw_true (o := ⟨dst, o, ty, pos, af, gd⟩) hf hw)]
  refine wpIn_of_upon h.nd (h.out _ _ _ _ _ a w hf hC _ _ fun v l' w' hrr hs' => ?_)
  exact wAny_of_wpM T (fun _ hw => hw.to fun _ _ => trivial) _ _ _ _ hs' (k v l' _ hrr (hg v a hf) (hcl.set hri))
/-- Two operations are ready; whichever comes first, the same is known behind them. -/
theorem JX_two {j : Nat} {o2 : Op} {ty2 : TypeId} {pos2 : String} {af2 : Array Edge} {gd2 : Option (Nat × Bool)} {d2 : Tmp} {R : Value → Value → List HP → Prop}
    (hi : nth opl i = some ⟨some d, o, ty, pos, af, gd⟩) (hj : nth opl j = some ⟨some d2, o2, ty2, pos2, af2, gd2⟩) (hk : kindAt ks i = 3) (hk2 : kindAt ks j = 4) (hd : Nat.beq d d2 = false)
    (hw : gw opl g gd = some true) (hw2 : gw opl g gd2 = some true) (hw' : ∀ v, gw opl ((d2, v) :: g) gd = some true) (hw2' : ∀ v, gw opl ((d, v) :: g) gd2 = some true) (hN : Nat.blt d C.N = true) (hN2 : Nat.blt d2 C.N = true)
    (h1 : OpL C g l o (fun v l1 => OpL C ((d, v) :: g) l1 o2 (fun u l2 => R v u l2))) (h2 : OpL C g l o2 (fun u l1 => OpL C ((d2, u) :: g) l1 o (fun v l2 => R v u l2)))
    (k : ∀ v u l', R v u l' → JX C opl Q [] ks rest ((d2, u) :: (d, v) :: g) l') : JX C opl Q [] ks (i :: j :: rest) g l := by
  refine ⟨fun T hQ hK listed hc hcl a hf => ?_⟩
  have hi' : opl.toArray[i]? = some ⟨some d, o, ty, pos, af, gd⟩ := by rw [List.getElem?_toArray, ← nth_eq]; exact hi
  have hj' : opl.toArray[j]? = some ⟨some d2, o2, ty2, pos2, af2, gd2⟩ := by rw [List.getElem?_toArray, ← nth_eq]; exact hj
  simp only [chk, hk, hk2, Bool.and_eq_true, Bool.or_eq_true, beq_iff_eq] at hc
  obtain ⟨⟨⟨⟨hr, hri⟩, hrj⟩, _⟩, _, hc2⟩ := hc
  have hmem : ∀ m, m ∈ Region.ready .any opl.toArray listed ↔ m = i ∨ m = j := fun m => by rcases hr with e | e <;> rw [e] <;> simp [or_comm]
  have hir : i ∈ Region.ready .any opl.toArray listed := (hmem i).2 (.inl rfl)
  have hjr : j ∈ Region.ready .any opl.toArray listed := (hmem j).2 (.inr rfl)
  have hne : i ≠ j := fun e => by subst e; rw [hk] at hk2; cases hk2
  have hnsi : hsOf ks i = false := by unfold hsOf; rw [hk]; rfl
  have hnsj : hsOf ks j = false := by unfold hsOf; rw [hk2]; rfl
  have hdd : d ≠ d2 := fun e => by subst e; simp at hd
  have swap : ∀ {v u : Value} {a' : Act}, Fits C ((d, v) :: (d2, u) :: g) a' → Fits C ((d2, u) :: (d, v) :: g) a' := fun {v u a'} h => by
    refine ⟨h.1, h.2.1, fun t x e => h.2.2 t x ?_⟩
    simp only [look] at e ⊢
    by_cases e1 : d2 = t
    · subst e1
      have : Nat.beq d d2 = false := hd
      simp only [this, Nat.beq_refl] at e ⊢
      exact e
    · have e2 : Nat.beq d2 t = false := by
        cases hb : Nat.beq d2 t with
        | false => rfl
        | true => exact absurd (Nat.eq_of_beq_eq_true hb) e1
      simp only [e2] at e ⊢
      exact e
  refine ⟨fun h0 => (by rw [h0] at hir; cases hir), fun m hm => ?_⟩
  rcases (hmem m).1 hm with e | e <;> subst e
  · refine ⟨fun hb => (by rw [hnsi] at hb; cases hb), fun _ w hC => ?_⟩
    unfold wpOpIn
    simp only [hi']
    rw [if_pos (gw_true (o := ⟨some d, o, ty, pos, af, gd⟩) hf hw)]
    refine wpIn_of_upon h1.nd (h1.out _ _ _ _ _ a w hf hC _ _ fun v l' w' hrr hs' => ?_)
    refine wAny_of_wpM (hs := hsOf ks) T (fun _ hw => hw.to fun _ _ => trivial) _ _ _ _ hs' ?_
    exact wpM_one (g' := fun u => (d2, u) :: (d, v) :: g) T (hcl.set hir) hri hj hnsj hrr (hw2' v) (fun u a hf => hf.put hN2) (hf.put hN) fun u l2 a' hR hf' hcl' => (k v u l2 hR).out T hQ (fun _ hw => hw.to fun _ _ => trivial) _ hc2 hcl' a' hf'
  · refine ⟨fun hb => (by rw [hnsj] at hb; cases hb), fun _ w hC => ?_⟩
    unfold wpOpIn
    simp only [hj']
    rw [if_pos (gw_true (o := ⟨some d2, o2, ty2, pos2, af2, gd2⟩) hf hw2)]
    refine wpIn_of_upon h2.nd (h2.out _ _ _ _ _ a w hf hC _ _ fun u l' w' hrr hs' => ?_)
    refine wAny_of_wpM (hs := hsOf ks) T (fun _ hw => hw.to fun _ _ => trivial) _ _ _ _ hs' ?_
    exact wpM_one (g' := fun v => (d, v) :: (d2, u) :: g) T (hcl.set hjr) hrj hi hnsi hrr (hw' u) (fun u a hf => hf.put hN) (hf.put hN2) fun v l2 a' hR hf' hcl' =>
      (k v u l2 hR).out T hQ (fun _ hw => hw.to fun _ _ => trivial) _ (by rw [Array.setIfInBounds_comm _ _ (Ne.symm hne)]; exact hc2) hcl' a' (swap hf')
end rules
end Go.Sep
