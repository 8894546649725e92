/-
  Our own, over any program: regions that draw their order of evaluation, where several loud operations come up at once: walked along a plan that branches; appends to a slice that may own nothing.
-/
import Derived.Test.YtchanmljjfcplaaJo
set_option linter.unusedSimpArgs false
set_option linter.unusedVariables false
namespace Go.Sep
open Go.RowKit
/-- An order of ours: a quiet operation that is taken first; the one, or the two, that come up. -/
inductive Plan where
  | fin
  | q (i : Nat) (p : Plan)
  | l1 (i : Nat) (p : Plan)
  | l2 (i : Nat) (p : Plan) (j : Nat) (p' : Plan)
def Plan.dep : Plan → Nat
  | .fin => 0
  | .q _ p => p.dep + 1
  | .l1 _ p => p.dep + 1
  | .l2 _ p _ _ => p.dep + 1
/-- Kinds: 0: yields in every world; 5: reads what is kept; 6: comes behind all of these, and keeps nothing; else: loud, and keeps it. -/
def lateB (ks : List Nat) (j : Nat) : Bool := Nat.beq (kindAt ks j) 6
def ndB (ks : List Nat) (n : Nat) (listed : Array Bool) : Bool := (List.range n).all fun j => !lateB ks j || !listed.getD j false
def chkF (ops : Array Oper) (ks : List Nat) : Plan → Array Bool → Bool
  | .fin, listed => (Region.ready .any ops listed).isEmpty
  | .q i p, listed => Region.free .any ops listed i && (Region.ready .any ops listed).contains i &&
      (Nat.beq (kindAt ks i) 0 || (Nat.beq (kindAt ks i) 5 && waitB ops i (dsOf ops i) && (List.range ops.size).all fun j => !lateB ks j || (dsOf ops i).contains j)) && chkF ops ks p (listed.setIfInBounds i true)
  | .l1 i p, listed => Region.ready .any ops listed == [i] && chkF ops ks p (listed.setIfInBounds i true)
  | .l2 i p j p', listed => (Region.ready .any ops listed == [i, j] || Region.ready .any ops listed == [j, i]) && Nat.beq p.dep p'.dep && chkF ops ks p (listed.setIfInBounds i true) && chkF ops ks p' (listed.setIfInBounds j true)

section draws
variable {r : Option Nat} {P : Program} {ops : Array Oper} {Q : Post} {Kw Kn : World → Prop} {nd : Array Bool → Bool}
def wpN (r : Option Nat) (P : Program) (ops : Array Oper) (Q : Post) (nd : Array Bool → Bool) (Kw : World → Prop) : Nat → Array Bool → Act → World → Prop
  | 0, listed, a, w => (nd listed = true → Kw w) ∧ Region.ready .any ops listed = [] ∧ Q .normal a w
  | fuel + 1, listed, a, w => (nd listed = true → Kw w) ∧ (Region.ready .any ops listed = [] → Q .normal a w) ∧ ∀ i ∈ Region.ready .any ops listed, wpOpIn (FR r) 0 P ops Q i (wpN r P ops Q nd Kw fuel (listed.setIfInBounds i true)) a w
theorem wpN.kept : ∀ {fuel : Nat} {listed : Array Bool} {a : Act} {w : World}, wpN r P ops Q nd Kw fuel listed a w → nd listed = true → Kw w
  | 0, _, _, _, h => h.1
  | _ + 1, _, _, _, h => h.1
theorem wpN.any : ∀ {fuel : Nat} {listed : Array Bool} {a : Act} {w : World}, wpN r P ops Q nd Kw fuel listed a w → wpAnyIn (FR r) 0 P .any ops Q fuel listed a w
  | 0, _, _, _, h => ⟨h.2.1, h.2.2⟩
  | _ + 1, _, _, _, h => ⟨h.2.1, fun i hi => wpOpIn_mono (fun _ _ h3 => h3.any) (h.2.2 i hi)⟩
theorem wN_first {i : Nat} {oi : Oper} {v : Value} (T : Tame ops) (hi : ops[i]? = some oi) (hQ : ∀ c a w, ¬ Q (.panic c) a w)
    (hKn : ∀ (listed : Array Bool) (w : World), Closed ops listed → listed.getD i false = false → (nd (listed.setIfInBounds i true) = true → Kw w) → Kn w)
    (hnd : ∀ (listed : Array Bool) (w : World), Closed ops listed → listed.getD i false = false → (nd (listed.setIfInBounds i true) = true → Kw w) → nd listed = true → Kw w) :
    ∀ (fuel : Nat) (listed : Array Bool) (a : Act) (w : World), FreeAt ops listed i oi → i ∈ Region.ready .any ops listed → Closed ops listed → YieldsK P ops Kn oi v a →
      wpN r P ops Q nd Kw fuel (listed.setIfInBounds i true) (a.put oi.dst v) w → wpN r P ops Q nd Kw (fuel + 1) listed a w := by
  intro fuel
  induction fuel with
  | zero =>
    intro listed a w _ hr hcl hy H
    have hun := unlisted_false (mem_ready.1 hr).1
    refine ⟨hnd listed w hcl hun H.kept, fun h => (by rw [h] at hr; cases hr), fun j hj => ?_⟩
    by_cases hji : j = i
    · subst hji; exact wOp_of_yields T hi hy (hKn listed w hcl hun H.kept) H
    · have := ready_mono hj hji
      rw [H.2.1] at this
      cases this
  | succ fuel ih =>
    intro listed a w hfree hr hcl hy H
    have hun := unlisted_false (mem_ready.1 hr).1
    refine ⟨hnd listed w hcl hun H.kept, fun h => (by rw [h] at hr; cases hr), fun j hj => ?_⟩
    by_cases hji : j = i
    · subst hji; exact wOp_of_yields T hi hy (hKn listed w hcl hun H.kept) H
    · obtain ⟨hjun, oj, hoj, _⟩ := mem_ready.1 hj
      have h2 := wOp_put T (fun cs b => T.sel i oi cs b hi) hoj (hfree j oj hoj hji hjun (ready_no_edge hr hj hoj)) hQ hy (H.2.2 j (ready_mono hj hji))
      refine wpOpIn_mono (fun a' w' h3 => ih (listed.setIfInBounds j true) a' w' (hfree.set hjun) (ready_mono hr (Ne.symm hji)) (hcl.set hj) h3.1 ?_) h2
      rw [Array.setIfInBounds_comm _ _ hji]
      exact h3.2
end draws

/-- The operations of a plan that are still to come. -/
structure JF (C : Ctx) (opl : List Oper) (Q : Post) (kp : List HP) (ks : List Nat) (plan : Plan) (g : Regs) (l : List HP) : Prop where
  out : Tame opl.toArray → (∀ c a w, ¬ Q (.panic c) a w) → ∀ listed, chkF opl.toArray ks plan listed = true → Closed opl.toArray listed → (ndB ks opl.length listed = true → ∀ w, Sat C.W (l ++ C.fr) w → Sat C.W kp w) →
    ∀ a w, Fits C g a → Sat C.W (l ++ C.fr) w → wpN C.r C.P opl.toArray Q (ndB ks opl.length) (Sat C.W kp) plan.dep listed a w
/-- A loud one of them, that comes up. -/
structure JFO (C : Ctx) (opl : List Oper) (Q : Post) (kp : List HP) (ks : List Nat) (i : Nat) (plan : Plan) (g : Regs) (l : List HP) : Prop where
  out : Tame opl.toArray → (∀ c a w, ¬ Q (.panic c) a w) → ∀ listed, chkF opl.toArray ks plan (listed.setIfInBounds i true) = true → Closed opl.toArray listed → i ∈ Region.ready .any opl.toArray listed → (ndB ks opl.length listed = true → ∀ w, Sat C.W (l ++ C.fr) w → Sat C.W kp w) →
    ∀ a w, Fits C g a → Sat C.W (l ++ C.fr) w → wpOpIn (FR C.r) 0 C.P opl.toArray Q i (wpN C.r C.P opl.toArray Q (ndB ks opl.length) (Sat C.W kp) plan.dep (listed.setIfInBounds i true)) a w

theorem J_plan {C : Ctx} {opl : List Oper} {Q : Post} {g : Regs} {l : List HP} {id : Nat} (kp : List HP) (hkp : ∀ H, Stars l H → Stars kp H) (ks : List Nat) (plan : Plan) (hm : C.P.follows .mixedOrders = true)
    (hc : (tameB opl.toArray && Nat.beq plan.dep opl.length && chkF opl.toArray ks plan (Array.replicate opl.length false)) = true)
    (h : JF C opl (NP Q) kp ks plan g l) : J C (.region id opl.toArray true) Q g l := by
  simp only [Bool.and_eq_true] at hc
  obtain ⟨⟨ht, hlen⟩, hc⟩ := hc
  refine ⟨fun a w hf hs => ?_⟩
  have T := tameB_spec ht
  have hcl : Closed opl.toArray (Array.replicate opl.length false) := by
    intro j oj hj hl
    exfalso
    rcases Nat.lt_or_ge j opl.length with h' | h'
    · simp [h'] at hl
    · simp [h'] at hl
  have hK : ∀ w, Sat C.W (l ++ C.fr) w → Sat C.W kp w := fun w hw => hw.to fun H k => hkp H k.left
  refine wpIn_mono (Q := NP Q) ?_ (fun e a w hq => by cases e <;> first | exact hq | exact hq.elim)
  refine wpIn_region_any hm ?_
  have e : opl.toArray.size = plan.dep := by simpa using (Nat.eq_of_beq_eq_true hlen).symm
  rw [e]
  have e2 : Array.replicate plan.dep false = Array.replicate opl.length false := by rw [Nat.eq_of_beq_eq_true hlen]
  rw [e2]
  exact (h.out T (fun c a w h => h) _ hc hcl (fun _ => hK) a _ hf (hs.drawn _)).any

section rules
variable {C : Ctx} {opl : List Oper} {Q : Post} {kp : List HP} {ks : List Nat} {g : Regs} {l : List HP} {i j : Nat} {p p' : Plan} {o : Op} {ty : TypeId} {pos : String} {af : Array Edge} {gd : Option (Nat × Bool)} {d : Tmp} {dst : Option Tmp} {op : Oper}
theorem JF_fin (h : At C (Q .normal) g l) : JF C opl Q kp ks .fin g l :=
  ⟨fun T hQ listed hc hcl hK a w hf hs => ⟨fun hn => hK hn w hs, by simpa only [chkF, List.isEmpty_iff] using hc, h.out a w hf hs⟩⟩
theorem IsF (h : JF C opl Q kp ks p g l) : JF C opl Q kp ks p g l := h
theorem ndB_of {n : Nat} {ks : List Nat} {listed : Array Bool} : ndB ks n listed = true ↔ ∀ j, j < n → lateB ks j = true → listed.getD j false = false := by
  simp only [ndB, List.all_eq_true, List.mem_range, Bool.or_eq_true, Bool.not_eq_true']
  constructor
  · intro h j hj hl
    rcases h j hj with e | e
    · rw [hl] at e; cases e
    · exact e
  · intro h j hj
    cases hl : lateB ks j with
    | false => exact .inl rfl
    | true => exact .inr (h j hj hl)
theorem JF_take {v : Value} {g' : Regs} (hi : nth opl i = some op) (hy : ∀ a, Fits C g a → YieldsK C.P opl.toArray (fun w => kindAt ks i = 5 → Sat C.W kp w) op v a)
    (hg : ∀ a, Fits C g a → Fits C g' (a.put op.dst v)) (k : JF C opl Q kp ks p g' l) : JF C opl Q kp ks (.q i p) g l := by
  refine ⟨fun T hQ listed hc hcl hK a w hf hs => ?_⟩
  have hi' : opl.toArray[i]? = some op := by rw [List.getElem?_toArray, ← nth_eq]; exact hi
  simp only [chkF, Bool.and_eq_true] at hc
  obtain ⟨⟨⟨hc1, hc2⟩, hc3⟩, hc4⟩ := hc
  have hready : i ∈ Region.ready .any opl.toArray listed := by simpa [List.contains_iff_mem] using hc2
  have hnl : lateB ks i = false := by
    simp only [Bool.or_eq_true, Bool.and_eq_true] at hc3
    unfold lateB
    rcases hc3 with e | ⟨⟨e, _⟩, _⟩
    · rw [Nat.eq_of_beq_eq_true e]; rfl
    · rw [Nat.eq_of_beq_eq_true e]; rfl
  have hset : ∀ L : Array Bool, ndB ks opl.length L = true → ndB ks opl.length (L.setIfInBounds i true) = true := fun L h => by
    rw [ndB_of] at h ⊢
    intro j hj hl
    have hne : i ≠ j := fun e => by subst e; rw [hnl] at hl; cases hl
    rw [getD_set_ne false hne]; exact h j hj hl
  have hlate : kindAt ks i = 5 → ∀ L : Array Bool, Closed opl.toArray L → L.getD i false = false → ndB ks opl.length (L.setIfInBounds i true) = true := fun h5 L hcl hun => by
    simp only [Bool.or_eq_true, Bool.and_eq_true, List.all_eq_true, List.mem_range] at hc3
    rcases hc3 with e | ⟨⟨_, e2⟩, e3⟩
    · rw [h5] at e; cases e
    · apply hset
      rw [ndB_of]
      intro j hj hl
      have h3 := e3 j (by simpa using hj)
      rcases h3 with h3 | h3
      · rw [hl] at h3; cases h3
      · exact (waitB_spec e2).unlisted hcl hun j (by simpa [List.contains_iff_mem] using h3)
  have hrest := k.out T hQ _ hc4 (hcl.set hready) (fun hn => hK (by
    rw [ndB_of] at hn ⊢
    intro j hj hl
    have hne : i ≠ j := fun e => by subst e; rw [hnl] at hl; cases hl
    have := hn j hj hl
    rwa [getD_set_ne false hne] at this)) (a.put op.dst v) w (hg a hf) hs
  refine wN_first (Kn := fun w => kindAt ks i = 5 → Sat C.W kp w) T hi' hQ ?_ ?_ _ listed a w (Region.free_spec hi' hc1) hready hcl (hy a hf) hrest
  · intro L w hcl' hun h h5
    exact h (hlate h5 L hcl' hun)
  · intro L w hcl' hun h hn
    exact h (hset L hn)
theorem JF_l1 (h : JFO C opl Q kp ks i p g l) : JF C opl Q kp ks (.l1 i p) g l :=
  ⟨fun T hQ listed hc hcl hK a w hf hs => by
    simp only [chkF, Bool.and_eq_true, beq_iff_eq] at hc
    obtain ⟨hc1, hc2⟩ := hc
    refine ⟨fun hn => hK hn w hs, fun h0 => (by rw [hc1] at h0; cases h0), fun j hj => ?_⟩
    have hj' : j = i := by rw [hc1] at hj; simpa using hj
    subst hj'
    exact h.out T hQ listed hc2 hcl hj hK a w hf hs⟩
theorem JF_l2 (h1 : JFO C opl Q kp ks i p g l) (h2 : JFO C opl Q kp ks j p' g l) : JF C opl Q kp ks (.l2 i p j p') g l :=
  ⟨fun T hQ listed hc hcl hK a w hf hs => by
    simp only [chkF, Bool.and_eq_true, Bool.or_eq_true, beq_iff_eq] at hc
    obtain ⟨⟨⟨hc1, hd⟩, hc2⟩, hc3⟩ := hc
    have hd := Nat.eq_of_beq_eq_true hd
    refine ⟨fun hn => hK hn w hs, fun h0 => (by rcases hc1 with e | e <;> (rw [e] at h0; cases h0)), fun q hq => ?_⟩
    have hq' : q = i ∨ q = j := by
      rcases hc1 with e | e
      · rw [e] at hq; simpa using hq
      · rw [e] at hq
        have : q = j ∨ q = i := by simpa using hq
        exact this.symm
    rcases hq' with rfl | rfl
    · exact h1.out T hQ listed hc2 hcl hq hK a w hf hs
    · have := h2.out T hQ listed hc3 hcl hq hK a w hf hs
      rw [← hd] at this
      exact this⟩
theorem JFO_loud {R : Value → List HP → Prop} {g' : Value → Regs} (hi : nth opl i = some ⟨dst, o, ty, pos, af, gd⟩) (h : OpL C g l o R) (hw : gw opl g gd = some true)
    (hg : ∀ v a, Fits C g a → Fits C (g' v) (a.put dst v)) (hkp : lateB ks i = true ∨ ∀ v l', R v l' → ∀ H, Stars l' H → Stars kp H) (k : ∀ v l', R v l' → (∃ w, Sat C.W (l' ++ C.fr) w) → JF C opl Q kp ks p (g' v) l') : JFO C opl Q kp ks i p g l := by
  refine ⟨fun T hQ listed hc hcl hr hK a w hf hs => ?_⟩
  have hi' : opl.toArray[i]? = some ⟨dst, o, ty, pos, af, gd⟩ := by rw [List.getElem?_toArray, ← nth_eq]; exact hi
  have hil : i < opl.length := by have := (Array.getElem?_eq_some_iff.1 hi').1; simpa using this
  unfold wpOpIn
  simp only [hi']
  rw [if_pos (gw_true (o := ⟨dst, o, ty, pos, af, gd⟩) hf hw)]
  refine wpIn_of_upon h.nd (h.out _ _ _ _ _ a w hf hs _ _ fun v l' w' hrr hs' => ?_)
  refine (k v l' hrr ⟨w', hs'⟩).out T hQ _ hc (hcl.set hr) (fun hn w hw => ?_) _ _ (hg v a hf) hs'
  rcases hkp with hkp | hkp
  · exfalso
    rw [ndB_of] at hn
    have := hn i hil hkp
    have hlt : i < listed.size := by
      have h1 := (mem_ready.1 hr).1
      rcases Nat.lt_or_ge i listed.size with h' | h'
      · exact h'
      · simp [Array.getElem?_eq_none h'] at h1
    simp [hlt] at this
  · exact hw.to fun H k => hkp v l' hrr H k.left
theorem JFO_l {R : Value → List HP → Prop} (hi : nth opl i = some ⟨some d, o, ty, pos, af, gd⟩) (h : OpL C g l o R) (hw : gw opl g gd = some true) (hN : Nat.blt d C.N = true)
    (hkp : lateB ks i = true ∨ ∀ v l', R v l' → ∀ H, Stars l' H → Stars kp H) (k : ∀ v l', R v l' → (∃ w, Sat C.W (l' ++ C.fr) w) → JF C opl Q kp ks p ((d, v) :: g) l') : JFO C opl Q kp ks i p g l :=
  JFO_loud hi h hw (fun v a hf => hf.put hN) hkp k
theorem JFO_l0 {R : Value → List HP → Prop} (hi : nth opl i = some ⟨none, o, ty, pos, af, gd⟩) (h : OpL C g l o R) (hw : gw opl g gd = some true)
    (hkp : lateB ks i = true ∨ ∀ v l', R v l' → ∀ H, Stars l' H → Stars kp H) (k : ∀ v l', R v l' → (∃ w, Sat C.W (l' ++ C.fr) w) → JF C opl Q kp ks p g l') : JFO C opl Q kp ks i p g l :=
  JFO_loud (g' := fun _ => g) hi h hw (fun v a hf => hf) hkp k
theorem JF_val {v : Value} (hi : nth opl i = some ⟨some d, o, ty, pos, af, gd⟩) (h : OpV C g o v) (hw : gw opl g gd = some true) (hN : Nat.blt d C.N = true) (k : JF C opl Q kp ks p ((d, v) :: g) l) : JF C opl Q kp ks (.q i p) g l :=
  JF_take hi (fun a hf => .inl ⟨gw_true (o := ⟨some d, o, ty, pos, af, gd⟩) hf hw, fun w _ => h.2 _ _ _ _ _ a w hf⟩) (fun a hf => hf.put hN) k
theorem JF_v {v : Value} (hi : nth opl i = some ⟨some d, o, ty, pos, af, gd⟩) (h : pureOp C.ti g o = some v) (hw : gw opl g gd = some true) (hN : Nat.blt d C.N = true) (k : JF C opl Q kp ks p ((d, v) :: g) l) : JF C opl Q kp ks (.q i p) g l :=
  JF_val hi (pureOp_sound h) hw hN k
theorem JF_kept {v : Value} (hi : nth opl i = some ⟨some d, o, ty, pos, af, gd⟩) (hk : kindAt ks i = 5) (h : OpK C g kp o v) (hw : gw opl g gd = some true) (hN : Nat.blt d C.N = true) (k : JF C opl Q kp ks p ((d, v) :: g) l) : JF C opl Q kp ks (.q i p) g l :=
  JF_take hi (fun a hf => .inl ⟨gw_true (o := ⟨some d, o, ty, pos, af, gd⟩) hf hw, fun w hw' => h.out _ _ _ _ _ a hf w (hw' hk)⟩) (fun a hf => hf.put hN) k
/-- Fewer registers, assertions put otherwise: where orders meet again. -/
theorem JF_to {g' : Regs} {l' : List HP} (hg : SubG g' g) (hl : ∀ H, Stars l H → Stars l' H) (hkp : ∀ H, Stars l' H → Stars kp H) (h : JF C opl Q kp ks p g' l') : JF C opl Q kp ks p g l :=
  ⟨fun T hQ listed hc hcl hK a w hf hs => h.out T hQ listed hc hcl (fun hn w hw => hw.to fun H k => hkp H k.left) a w (hf.sub hg) (hs.lift hl)⟩
/-- What comes behind several orders, shown once. -/
theorem JF_cut {α : Type} (p0 : Plan) (G : α → Regs) (L : α → List HP) (main : (∀ z, JF C opl Q kp ks p0 (G z) (L z)) → JF C opl Q kp ks p g l) (h : ∀ z, JF C opl Q kp ks p0 (G z) (L z)) : JF C opl Q kp ks p g l := main h
/-- The same, told by the operation. -/
def JFQ (C : Ctx) (opl : List Oper) (Q : Post) (kp : List HP) (ks : List Nat) (i : Nat) (op : Oper) (p : Plan) (g : Regs) (l : List HP) : Prop := nth opl i = some op → JF C opl Q kp ks (.q i p) g l
theorem JF_op (hi : nth opl i = some op) (k : JFQ C opl Q kp ks i op p g l) : JF C opl Q kp ks (.q i p) g l := k hi
theorem FsO (h : JFQ C opl Q kp ks i op p g l) : JFQ C opl Q kp ks i op p g l := h
theorem FsBin {b : BinOp} {t t' : TypeId} {x y : Operand} (h : JFQ C opl Q kp ks i ⟨dst, .binOp b t x y t', ty, pos, af, gd⟩ p g l) : JFQ C opl Q kp ks i ⟨dst, .binOp b t x y t', ty, pos, af, gd⟩ p g l := h
theorem FsLoad {t : TypeId} {x : Operand} (h : JFQ C opl Q kp ks i ⟨dst, .load t x, ty, pos, af, gd⟩ p g l) : JFQ C opl Q kp ks i ⟨dst, .load t x, ty, pos, af, gd⟩ p g l := h
theorem FsBuild {t : TypeId} {q : Array (Nat × Operand)} (h : JFQ C opl Q kp ks i ⟨dst, .build t q, ty, pos, af, gd⟩ p g l) : JFQ C opl Q kp ks i ⟨dst, .build t q, ty, pos, af, gd⟩ p g l := h
theorem FO_val {v : Value} (h : OpV C g o v) (hw : gw opl g gd = some true) (hN : Nat.blt d C.N = true) (k : JF C opl Q kp ks p ((d, v) :: g) l) : JFQ C opl Q kp ks i ⟨some d, o, ty, pos, af, gd⟩ p g l := fun hi => JF_val hi h hw hN k
theorem FO_v {v : Value} (h : pureOp C.ti g o = some v) (hw : gw opl g gd = some true) (hN : Nat.blt d C.N = true) (k : JF C opl Q kp ks p ((d, v) :: g) l) : JFQ C opl Q kp ks i ⟨some d, o, ty, pos, af, gd⟩ p g l := fun hi => JF_v hi h hw hN k
theorem FO_kept {v : Value} (hk : kindAt ks i = 5) (h : OpK C g kp o v) (hw : gw opl g gd = some true) (hN : Nat.blt d C.N = true) (k : JF C opl Q kp ks p ((d, v) :: g) l) : JFQ C opl Q kp ks i ⟨some d, o, ty, pos, af, gd⟩ p g l := fun hi => JF_kept hi hk h hw hN k
/-- The assertions of a list, found in another one. -/
inductive Sel : List HP → List HP → Prop
  | nil {l : List HP} : Sel l []
  | cons {l r kp : List HP} {x : HP} {i : Nat} (m : pick1 l i = some (x, r)) (h : Sel r kp) : Sel l (x :: kp)
theorem Sel.stars {l kp : List HP} (h : Sel l kp) : ∀ {H : PH}, Stars l H → Stars kp H := by
  induction h with
  | nil => exact fun _ => trivial
  | cons m _ ih =>
    intro H hs
    obtain ⟨h1, h2, ap, s1, s2, hp, hl⟩ := hs.perm (pick1_perm m)
    exact ⟨h1, h2, ap, s1, s2, hp, ih hl⟩
end rules

/-! ### Appends -/
section ops
variable {C : Ctx} {g : Regs} {l : List HP}
theorem Src.mono {l' : List HP} {sz m : Nat} {v : Value} {cs : List Value} (h : Src C l sz m v cs) (k : ∀ w, Sat C.W (l' ++ C.fr) w → Sat C.W (l ++ C.fr) w) : Src C l' sz m v cs := ⟨h.1, h.2.1, fun w hs => h.2.2 w (k w hs)⟩
theorem OL_appendz {T e s1 s2 sz by_ : Nat} {d : TD} {z ze : List Value} {x y : Operand} {a : Option Addr} {m T2 : Nat} {news : List Value} {v2 : Value} {i2 : TyI} (ht : look C.ti T = some ⟨.slice e, s1, s2, z⟩) (he : look C.ti e = some ⟨d, sz, by_, ze⟩) (hz : ze.length = sz)
    (hx : ev g x = some (.slice a 0 0)) (hy : ev g y = some v2) (hsrc : Src C l sz m v2 news)
    (hT2 : look C.ti T2 = some i2) (hni : ∀ k, i2.d ≠ .int k) (hb : (2 * (0 + m) + 1024) * by_ ≤ 140737488355328) (hnm : 0 + m < 9223372036854775807) (hby : by_ ≠ 0) :
    OpL C g l (.call { callee := .builtin .append, args := #[x, y], argTypes := #[T, T2] }) (fun u l' => ∃ a' cap', u = .slice a' m cap' ∧ l' = rowz e sz a' m cap' news :: l) := by
  rcases Nat.eq_zero_or_pos m with rfl | hm
  · refine ⟨(by intro c h; cases h), fun dst ty pos af gd ac w hf hs K Q kk => ?_⟩
    obtain ⟨_, d2, _, _, hu2, _, ed2, _⟩ := tyView_parts (C.ok.look hT2)
    have hni' : ∀ k, d2 ≠ .int k := fun k h => hni k (by rw [← ed2, h]; rfl)
    have hu := und_slice (C.ok.look ht) rfl
    have hsz' : ∀ w, (sizeOf e).run C.P w = .ok sz w := fun w => run_sizeOf w (C.ok.look he)
    obtain ⟨ft, _, zv, hft, _, hzv, _, _, hfb, hzc⟩ := tyView_parts (C.ok.look he)
    have hf1 : ∀ w, (typeInfo e).run C.P w = .ok ft w := fun w => run_typeInfo w hft
    have hz1 : ∀ w, (zeroValue e).run C.P w = .ok zv w := fun w => by simp [zeroValue, Sem.run_bind, run_typeInfo w hft, Result.andThen, hzv, Pure.pure]
    obtain ⟨hlen, hlo, hread⟩ := hsrc
    obtain rfl : news = [] := List.eq_nil_of_length_eq_zero (by simpa using hlen)
    have hold : ∀ k, (Builtin.firstCells sz 0 (.slice a 0 0)).run C.P { w with drawn := k } = .ok ([] : List Value).toArray { w with drawn := k } := by
      intro k
      cases a <;> simp [Builtin.firstCells, loadCells, loadCellsFrom, Pure.pure, Sem.run]
    have hnew : ∀ k, (Builtin.firstCells sz 0 v2).run C.P { w with drawn := k } = .ok ([] : List Value).toArray { w with drawn := k } := fun k => hread _ (hs.drawn k)
    obtain ⟨A1, A2⟩ := run_append (ty := ty) hu hu2 hni' hsz' hf1 hfb hz1 hlo hold hnew hb hnm hby
    have hr := A1 (Nat.le_refl _) w (by cases a <;> rfl)
    have := run_builtin_of (P := C.P) (ρ := ac.eval) (b := .append) (xs := #[x, y]) (ts := #[T, T2]) (w := w) (d := dst) (ty := ty) (pos := pos) (af := af) (gd := gd) (n := .value (.slice a 0 0)) (w' := w) (by
      simp only [builtin, List.map_toArray, List.map_cons, List.map_nil, hf.ev hx, hf.ev hy]
      rw [Sem.run_bind, hr]; rfl)
    rw [this]
    exact kk _ _ w ⟨a, 0, rfl, rfl⟩ (Sat.lift (l := l) hs fun H h => rowz_nil h)
  · refine ⟨(OL_append0 ht he hz hx hy hm hsrc hT2 hni hb hnm hby).nd, fun dst ty pos af gd ac w hf hs K Q kk => ?_⟩
    refine (OL_append0 ht he hz hx hy hm hsrc hT2 hni hb hnm hby).out dst ty pos af gd ac w hf hs K Q ?_
    rintro v l' w' ⟨a', cap', rfl, rfl⟩ hs'
    exact kk _ _ w' ⟨a', cap', rfl, rfl⟩ (Sat.lift (l := row e sz a' m cap' news :: l) hs' fun H h => rowz_row h)
theorem OL_appendr {T e s1 s2 sz by_ : Nat} {d : TD} {z ze : List Value} {x y : Operand} {a : Option Addr} {n m cap i T2 : Nat} {cs news : List Value} {v2 : Value} {r : List HP} {i2 : TyI} (ht : look C.ti T = some ⟨.slice e, s1, s2, z⟩) (he : look C.ti e = some ⟨d, sz, by_, ze⟩) (hz : ze.length = sz)
    (hx : ev g x = some (.slice a n cap)) (hy : ev g y = some v2) (hi : pick1 l i = some (rowz e sz a n cap cs, r)) (hsrc : Src C l sz m v2 news) (hplain : plainL news = true)
    (hT2 : look C.ti T2 = some i2) (hni : ∀ k, i2.d ≠ .int k) (hb : (2 * (n + m) + 1024) * by_ ≤ 140737488355328) (hnm : n + m < 9223372036854775807) (hby : by_ ≠ 0) :
    OpL C g l (.call { callee := .builtin .append, args := #[x, y], argTypes := #[T, T2] }) (fun u l' => ∃ a' cap', u = .slice a' (n + m) cap' ∧ l' = rowz e sz a' (n + m) cap' (cs ++ news) :: r) := by
  refine ⟨(by intro c h; cases h), fun dst ty pos af gd ac w hf hs K Q kk => ?_⟩
  have hs' : Sat C.W (rowz e sz a n cap cs :: (r ++ C.fr)) w := hs.perm ((pick1_perm hi).append_right _)
  obtain ⟨x1, x2, ap, q1, q2, hp, hl⟩ := hs'.stars
  have hrow : ∀ w, Sat C.W ((row e sz a n cap cs :: r) ++ C.fr) w → Sat C.W (l ++ C.fr) w := fun w hw => by
    have h1 : Sat C.W (rowz e sz a n cap cs :: (r ++ C.fr)) w := hw.to fun H h => rowz_row h
    exact h1.perm ((pick1_perm hi).append_right _).symm
  rcases hp with ⟨rfl, rfl, rfl⟩ | hp
  · have hsr : Sat C.W (r ++ C.fr) w := ⟨hs'.os, hs'.tape, hs'.output, hl.mono q2⟩
    have hback : ∀ w, Sat C.W (r ++ C.fr) w → Sat C.W (l ++ C.fr) w := fun w hw => by
      have h1 : Sat C.W (rowz e sz a 0 0 [] :: (r ++ C.fr)) w := hw.to fun H h => rowz_nil h
      exact h1.perm ((pick1_perm hi).append_right _).symm
    refine (OL_appendz (l := r) ht he hz hx hy (hsrc.mono hback) hT2 hni hb hnm hby).out dst ty pos af gd ac w hf hsr K Q ?_
    rintro v l' w' ⟨a', cap', rfl, rfl⟩ hs2
    refine kk _ _ w' ⟨a', cap', by rw [Nat.zero_add], rfl⟩ ?_
    rw [Nat.zero_add, List.nil_append]
    exact hs2
  · have hsr : Sat C.W ((row e sz a n cap cs :: r) ++ C.fr) w := ⟨hs'.os, hs'.tape, hs'.output, x1, x2, ap, q1, q2, hp, hl⟩
    refine (OL_append (l := row e sz a n cap cs :: r) (i := 0) ht he hz hx hy rfl (hsrc.mono hrow) hplain hT2 hni hb hnm hby).out dst ty pos af gd ac w hf hsr K Q ?_
    rintro v l' w' ⟨a', cap', rfl, rfl⟩ hs2
    exact kk _ _ w' ⟨a', cap', rfl, rfl⟩ (Sat.lift (l := row e sz a' (n + m) cap' (cs ++ news) :: r) hs2 fun H h => rowz_row h)
theorem OK_readA {kp : List HP} {T b o m sz cap i n : Nat} {R : HP} {cs vs : List Value} {x : Operand} (h : Reads R sz m (some ⟨b, o, none⟩) cap cs) (hR : R ∈ kp) (hx : ev g x = some (ptr b (o + i))) (ha : aggAt C.ti T = some true) (hn : sizeAt C.ti T = some n) (hi : i + n ≤ m * sz) (hc : takeL cs i n = some vs) : OpK C g kp (.load T x) (.agg vs.toArray) :=
  ⟨fun dst ty pos af gd a hf w hs => by
    have hlen : cs.length = m * sz := h.len
    rw [takeL_eq (by omega)] at hc
    injection hc with hc
    have hvl : vs.length = n := by rw [← hc]; simp; omega
    have hl : (loadCells ⟨b, o + i, none⟩ n).run C.P w = .ok vs.toArray w := by
      have := run_loadCells_of (P := C.P) (w := w) (b := b) (off := o + i) n 0 vs #[] hvl (fun j hj => by
        obtain ⟨b', o', e', hc'⟩ := h.cell _ _ w hs hR (i + j) (by omega)
        injection e' with e'
        injection e' with e1 e2
        subst e1 e2
        rw [show o + i + (0 + j) = o + (i + j) by omega, hc', ← hc, List.getElem?_take_of_lt hj, List.getElem?_drop])
      simpa [loadCells] using this
    simp only [execOp, hf.ev hx, ptr, Instr.loadAt, Instr.sureAddr, loadVar, Sem.run_bind, Sem.run, Result.andThen, Pure.pure, aggAt_run ha w, if_true, sizeAt_run hn w, hl]⟩
theorem OL_makeN {T e s1 s2 by_ k : Nat} {d : TD} {z : List Value} {x y : Operand} {q q' : IntKind} {v : Value} (ht : look C.ti T = some ⟨.slice e, s1, s2, z⟩) (he : look C.ti e = some ⟨d, 1, by_, [v]⟩)
    (hx : ev g x = some (.int q k)) (hy : ev g y = some (.int q' k)) (h1 : (by_ : Int) * k ≤ 140737488355328) (h2 : (k : Int) ≤ 9223372036854775807) :
    OpL C g l (.makeSlice T x y) (fun u l' => ∃ b, u = .slice (some ⟨b, 0, none⟩) k k ∧ l' = blk b (List.replicate k v) e :: l) := by
  have h := OL_make (l := l) ht he hx hy (by omega) h1 h2
  simp only [Int.toNat_natCast] at h
  exact h
/-- The first two, and the first three, of some assertions that are kept. -/
theorem Stars.pick {l kp r : List HP} {is : List Nat} (h : picks l is = some (kp, r)) {H : PH} (hl : Stars l H) : Stars kp H := (hl.perm (picks_perm h)).left
end ops
/-- A contract beside other assertions. -/
theorem Does.fr {P : Program} {f : FuncId} {args : List Value} {pre : List HP} {post : Value → List HP → Prop} (h : Does P f args pre post) (r : List HP) : Does P f args (r ++ pre) (fun v l => ∃ l1, post v l1 ∧ l = r ++ l1) :=
  ⟨h.1, fun W fr w hs => (h.2 W (r ++ fr) w (hs.perm ((List.perm_append_comm.append_right fr).trans (by rw [List.append_assoc])))).mono fun e w' ⟨v, l, he, hp, hs'⟩ =>
    ⟨v, r ++ l, he, ⟨l, hp, rfl⟩, hs'.perm (List.Perm.trans (by rw [List.append_assoc]) (List.perm_append_comm.append_right fr))⟩⟩
end Go.Sep
