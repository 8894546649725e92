/-
  Our own, over any program: calls of a function value that is told by what its call does; ranges over a function ('for x := range f { .. }').
-/
import Derived.Test.YtchanmljjfcplaaJn
import Derived.RangeFuncStops
import Derived.RangeFuncLeaves
set_option linter.unusedSimpArgs false
set_option linter.unusedVariables false
namespace Go.Sep
open Go.RowKit

/-- What a call of a function value does: a function's, or the 'yield' of a loop that is on. -/
def DoesV (P : Program) (y : Value) (args : List Value) (pre : List HP) (post : Value → List HP → Prop) : Prop :=
  (∃ (f : FuncId) (fi ca : Array Value), y = .func (.func f) fi ca ∧ Does P f (fi.toList ++ (args ++ ca.toList)) pre post) ∨
  (∃ l : Nat, y = .func (.yield l) #[] #[] ∧ ∀ (W : World) (fr : List HP) (w : World), Sat W (pre ++ fr) w →
    YieldAt Fence.wide 0 P l args.toArray w fun e w' => ∃ v l', e = .returned v ∧ post v l' ∧ Sat W (l' ++ fr) w')
theorem DoesV.of {P : Program} {f : FuncId} {fi ca : Array Value} {args : List Value} {pre : List HP} {post : Value → List HP → Prop} (h : Does P f (fi.toList ++ (args ++ ca.toList)) pre post) : DoesV P (.func (.func f) fi ca) args pre post := .inl ⟨f, fi, ca, rfl, h⟩

/-- .. from assertions put otherwise. -/
theorem Does.pre {P : Program} {f : FuncId} {args : List Value} {pre pre' : List HP} {post : Value → List HP → Prop} (h : Does P f args pre post) (k : ∀ H, Stars pre' H → Stars pre H) : Does P f args pre' post :=
  ⟨h.1, fun W fr w hs => h.2 W fr w (hs.lift k)⟩
theorem DoesV.pre {P : Program} {y : Value} {args : List Value} {pre pre' : List HP} {post : Value → List HP → Prop} (h : DoesV P y args pre post) (k : ∀ H, Stars pre' H → Stars pre H) : DoesV P y args pre' post := by
  rcases h with ⟨f, fi, ca, e, hd⟩ | ⟨l, e, hd⟩
  · exact .inl ⟨f, fi, ca, e, hd.pre k⟩
  · exact .inr ⟨l, e, fun W fr w hs => hd W fr w (hs.lift k)⟩
section ops
variable {C : Ctx} {g : Regs} {l : List HP}
/-- A call of it. -/
theorem OL_callV {x : Operand} {args : Array Operand} {ts : Array TypeId} {y : Value} {vas : List Value} {pre r : List HP} {post : Value → List HP → Prop}
    (hx : ev g x = some y) (ha : evs g args.toList = some vas) (hs : DoesV C.P y vas pre post) (hp : l.Perm (pre ++ r)) :
    OpL C g l (.call { callee := .value x, args := args, argTypes := ts }) (fun v l' => ∃ l1, post v l1 ∧ l' = l1 ++ r) := by
  rcases hs with ⟨f, fi, ca, rfl, hd⟩ | ⟨k, rfl, hd⟩
  · exact OL_callP hx ha rfl hd hp
  · refine ⟨(by intro c h; cases h), fun dst ty pos af gd a w hf hsat K Q kk => ?_⟩
    have e1 : args.map a.eval = vas.toArray := arr_of (hf.evs ha)
    have hs' : Sat C.W (pre ++ (r ++ C.fr)) w := (hsat.perm (hp.append_right _)).perm (by rw [List.append_assoc])
    obtain ⟨fn, tmps, assign, body, hy, hr⟩ := hd C.W (r ++ C.fr) w hs'
    have e2 : #[] ++ vas.toArray = vas.toArray := by simp
    simp only [execOp, resolve, e1, hf.ev hx, Deferred.ofValue, Sem.run_bind, Sem.run, Result.andThen, Pure.pure, invoke, e2]
    rw [hy]
    refine ⟨fun h => (by cases h), ?_⟩
    refine RoundIn.mono (F := FR C.r) (n := 0 - 1) hr ?_
    rintro e w' ⟨v, l', rfl, hpost, hsat'⟩
    exact kk _ _ _ ⟨l', hpost, rfl⟩ (hsat'.perm (by rw [List.append_assoc]))
end ops

/-! ### The loop's record -/
/-- What a loop's record keeps, in whatever state. -/
structure IsRec (C : Ctx) (g : Regs) (ps : List Nat) (assign body : Code) (R : LoopState → Option Code → Loop) : Prop where
  ex : ∃ (fn : FuncId) (tm : Array Value) (D : Nat), Fits C g ⟨tm, C.D⟩ ∧ R = fun st pe => { state := st, pending := pe, fn := fn, tmps := tm, params := ps.toArray, assign := assign, body := body, defers := D }
def setG : List (Nat × Value) → Regs → Regs
  | [], g => g
  | p :: r, g => setG r (p :: g)
theorem Fits.setG {C : Ctx} {z : List (Nat × Value)} (hz : ∀ p ∈ z, Nat.blt p.1 C.N = true) : ∀ {g : Regs} {tm : Array Value}, Fits C g ⟨tm, C.D⟩ → Fits C (setG z g) ⟨z.foldl (fun t p => t.setIfInBounds p.1 p.2) tm, C.D⟩ := by
  induction z with
  | nil => exact fun h => h
  | cons p z ih =>
    intro g tm h
    exact ih (fun q hq => hz q (.tail _ hq)) (h.put (hz p (.head _)))
def PEnd (C : Ctx) (k : Nat) (post : Value → List HP → Prop) : Post :=
  roundPost C.P k fun e w' => ∃ v l', e = .returned v ∧ post v l' ∧ Sat C.W (l' ++ C.fr) w'
def PAsg (C : Ctx) (k : Nat) (body : Code) (post : Value → List HP → Prop) : Post :=
  Exit.then (fun a₁ w₁ => ∃ w₂, (Instr.beginRound k).run C.P w₁ = .ok () w₂ ∧ body.wpIn (FR C.r) 0 C.P (PEnd C k post) a₁ w₂) (fun _ _ _ => False)
theorem putObj_eq (w : World) (k : Nat) (o : Obj) : w.putObj k o = { w with heap := w.heap.setIfInBounds k o } := rfl
/-- What a call of 'yield' does: the loop's body, walked in a round. -/
theorem DoesV.yield {P : Program} {ti : TIs} {ok : TIok P ti} {r0 : Option Nat} {N : Nat} {D : List Deferred} {W0 : World} {fr0 : List HP} {g : Regs} {ps : List Nat} {assign body : Code} {R : LoopState → Option Code → Loop}
    (hrec : IsRec ⟨P, ti, ok, r0, N, D, W0, fr0⟩ g ps assign body R) {k : Nat} {args : List Value} {pre : List HP} {post : Value → List HP → Prop}
    (hlen : args.length = ps.length) (hN : ∀ p ∈ ps, Nat.blt p N = true)
    (h : ∀ (W : World) (fr : List HP), J ⟨P, ti, ok, some k, N, [], W, fr⟩ assign (PAsg ⟨P, ti, ok, some k, N, [], W, fr⟩ k body post) (setG (ps.zip args) g) (pt k (.loop (R .ready none)) :: pre)) :
    DoesV P (.func (.yield k) #[] #[]) args (pt k (.loop (R .ready none)) :: pre) post := by
  refine .inr ⟨k, rfl, fun W fr w hs => ?_⟩
  obtain ⟨fn, tm, Db, hfit, rfl⟩ := hrec.ex
  have hl := hs.at (l := (pt k _ :: pre) ++ fr) (.head _)
  have hy := run_yield (P := P) (args := args.toArray) hl (by simp [hlen])
  refine ⟨fn, _, assign, body, hy, roundIn_of_wpIn trivial ?_⟩
  have hfit2 : Fits ⟨P, ti, ok, some k, N, [], W, fr⟩ g ⟨tm, []⟩ := ⟨rfl, hfit.2.1, hfit.2.2⟩
  have hz : ∀ p ∈ ps.zip args, Nat.blt p.1 N = true := fun p hp => hN p.1 (List.of_mem_zip hp).1
  have hfit3 := Fits.setG (C := ⟨P, ti, ok, some k, N, [], W, fr⟩) (z := ps.zip args) hz hfit2
  have e : (ps.toArray.zip args.toArray).foldl (fun t (p, v) => t.setIfInBounds p v) tm = (ps.zip args).foldl (fun t p => t.setIfInBounds p.1 p.2) tm := by
    rw [← Array.foldl_toList]
    simp
  simp only []
  rw [e]
  exact (h W fr).out _ w hfit3 hs
section rounds
variable {P : Program} {ti : TIs} {ok : TIok P ti} {N : Nat} {D : List Deferred} {W : World} {fr : List HP} {g g0 : Regs} {l r : List HP} {k i : Nat} {ps : List Nat} {assign body : Code} {R : LoopState → Option Code → Loop} {post : Value → List HP → Prop} {C0 : Ctx}
/-- The loop's variables have their values: on with the body. -/
theorem At_asg (hrec : IsRec C0 g0 ps assign body R) (m : pick1 l i = some (pt k (.loop (R .ready none)), r))
    (h : J ⟨P, ti, ok, some k, N, D, W, fr⟩ body (PEnd ⟨P, ti, ok, some k, N, D, W, fr⟩ k post) g (pt k (.loop (R .busy none)) :: r)) :
    At ⟨P, ti, ok, some k, N, D, W, fr⟩ (PAsg ⟨P, ti, ok, some k, N, D, W, fr⟩ k body post .normal) g l :=
  ⟨fun a w hf hs => by
    obtain ⟨fn, tm, Db, hfit, rfl⟩ := hrec.ex
    have hs' : Sat W (pt k _ :: (r ++ fr)) w := hs.perm ((pick1_perm m).append_right _)
    have hl := hs'.at (.head _)
    refine ⟨_, run_beginRound hl rfl, ?_⟩
    exact h.out a _ hf (hs'.setObj _)⟩
theorem At_roundEnd {x : Exit} {pe : Option Code} (hx : x = .normal ∧ pe = none ∨ x = .ret ∧ pe = some .ret ∨ (∃ id, x = .exit id ∧ pe = some (.exit id))) (hrec : IsRec C0 g0 ps assign body R) (m : pick1 l i = some (pt k (.loop (R .busy none)), r))
    {l' : List HP} (hl' : ∀ H, Stars (pt k (.loop (R (if pe.isNone then .ready else .done) pe)) :: r) H → Stars l' H) (h : post (.bool pe.isNone) l') :
    At ⟨P, ti, ok, some k, N, D, W, fr⟩ (PEnd ⟨P, ti, ok, some k, N, D, W, fr⟩ k post x) g l :=
  ⟨fun a w hf hs => by
    obtain ⟨fn, tm, Db, hfit, rfl⟩ := hrec.ex
    have hs' : Sat W (pt k _ :: (r ++ fr)) w := hs.perm ((pick1_perm m).append_right _)
    have hl := hs'.at (.head _)
    have he := run_endRound (P := P) pe hl
    rcases hx with ⟨rfl, rfl⟩ | ⟨rfl, rfl⟩ | ⟨id, rfl, rfl⟩
    · exact ⟨_, _, he, _, l', rfl, h, Sat.lift (l := pt k _ :: r) (hs'.setObj _) hl'⟩
    · exact ⟨_, _, he, _, l', rfl, h, Sat.lift (l := pt k _ :: r) (hs'.setObj _) hl'⟩
    · exact ⟨_, _, he, _, l', rfl, h, Sat.lift (l := pt k _ :: r) (hs'.setObj _) hl'⟩⟩
end rounds
theorem PThen_D {P : Program} {ti : TIs} {ok : TIok P ti} {r : Option Nat} {N : Nat} {D D' : List Deferred} {W : World} {fr : List HP} {y : Code} {Q : Post} : PThen ⟨P, ti, ok, r, N, D, W, fr⟩ y Q = PThen ⟨P, ti, ok, r, N, D', W, fr⟩ y Q := rfl
/-- A range over a function that has its contract. -/
theorem J_rangeFunc {P : Program} {ti : TIs} {ok : TIok P ti} {N : Nat} {D : List Deferred} {W : World} {fr : List HP} {x : Operand} {ps : List Nat} {assign body : Code} {Q : Post} {g : Regs} {l : List HP} {f : FuncId} {ca : Array Value}
    (hx : ev g x = some (.func (.func f) #[] ca))
    (h : ∀ (k d : Nat) (R : LoopState → Option Code → Loop), IsRec ⟨P, ti, ok, none, N, D, W, fr⟩ g ps assign body R → ∃ (pre r : List HP) (post : Value → List HP → Prop),
      (∀ H, Stars (pt k (.loop (R .ready none)) :: pt d (.deferred (some [])) :: l) H → Stars (pre ++ r) H) ∧ Does P f (.func (.yield k) #[] #[] :: ca.toList) pre post ∧
      ∀ v l1, post v l1 → ∃ (st : LoopState) (pe : Option Code) (rest : List HP), st ≠ .busy ∧ (∀ H, Stars (l1 ++ r) H → Stars (pt k (.loop (R st pe)) :: rest) H) ∧
        (pe = none → At ⟨P, ti, ok, none, N, ⟨.collected d, #[]⟩ :: D, W, fr⟩ (Q .normal) g rest) ∧ (∀ c, pe = some c → J ⟨P, ti, ok, none, N, ⟨.collected d, #[]⟩ :: D, W, fr⟩ c Q g rest)) :
    J ⟨P, ti, ok, none, N, D, W, fr⟩ (.rangeFunc x ps.toArray assign body) Q g l := by
  refine ⟨fun a w hf hs => wpIn_rangeFunc ?_⟩
  intro fn hfn
  obtain ⟨R, hR⟩ : ∃ R : LoopState → Option Code → Loop, R = fun st pe => { state := st, pending := pe, fn := fn, tmps := a.tmps, params := ps.toArray, assign := assign, body := body, defers := w.heap.size } := ⟨_, rfl⟩
  have hrec : IsRec ⟨P, ti, ok, none, N, D, W, fr⟩ g ps assign body R := ⟨fn, a.tmps, w.heap.size, ⟨rfl, hf.2.1, hf.2.2⟩, hR⟩
  obtain ⟨pre, r, post, hperm, hd, hk⟩ := h (w.heap.size + 1) w.heap.size R hrec
  have hs1 : Sat W (pt (w.heap.size + 1) (.loop (R .ready none)) :: pt w.heap.size (.deferred (some [])) :: (l ++ fr)) ((w.alloc (.deferred (some []))).alloc (.loop (R .ready none))) := by
    have := (hs.alloc (.deferred (some []))).alloc (.loop (R .ready none))
    rwa [World.size_alloc] at this
  have hs2 : Sat W (pre ++ (r ++ fr)) ((w.alloc (.deferred (some []))).alloc (.loop (R .ready none))) := by
    rw [← List.append_assoc]
    exact Sat.lift (l := pt (w.heap.size + 1) (.loop (R .ready none)) :: pt w.heap.size (.deferred (some [])) :: l) hs1 hperm
  refine ⟨w.heap.size + 1, [{ target := .collected w.heap.size, args := #[] }], (w.alloc (.deferred (some []))).alloc (.loop (R .ready none)), { target := .fn (.func f) ca, args := #[.func (.yield (w.heap.size + 1)) #[] #[]] }, (w.alloc (.deferred (some []))).alloc (.loop (R .ready none)), f,
    #[.func (.yield (w.heap.size + 1)) #[] #[]] ++ ca, (w.alloc (.deferred (some []))).alloc (.loop (R .ready none)), ?_, ?_, ?_, ?_, fun h => (by cases h), ?_⟩
  · rw [hR]; exact run_enterLoop_outer _ _ _ _ _
  · simp only [resolve, hf.ev hx]
    simp [go_sem]
  · intro f' _; trivial
  · have := hd.1 (#[.func (.yield (w.heap.size + 1)) #[] #[]] ++ ca) ((w.alloc (.deferred (some []))).alloc (.loop (R .ready none)))
    simpa [invoke, go_sem] using this
  · refine (callsIn_wide (n := 0 - 1)).2 ?_
    have hc := hd.2 W (r ++ fr) _ hs2
    have e : (Value.func (.yield (w.heap.size + 1)) #[] #[] :: ca.toList).toArray = #[.func (.yield (w.heap.size + 1)) #[] #[]] ++ ca := by
      apply Array.ext'; simp
    rw [e] at hc
    refine hc.mono ?_
    rintro e w' ⟨v, l1, rfl, hpost, hsat⟩
    obtain ⟨st, pe, rest, hst, hl, hn, hj⟩ := hk v l1 hpost
    have hs3 : Sat W (pt (w.heap.size + 1) (.loop (R st pe)) :: (rest ++ fr)) w' := by
      have := Sat.lift (l := l1 ++ r) (l' := pt (w.heap.size + 1) (.loop (R st pe)) :: rest) (fr := fr) (by rw [List.append_assoc]; exact hsat) hl
      exact this
    have hb := hs3.at (.head _)
    have hrun := run_endLoop (P := P) hb (by rw [hR]; exact hst)
    have hpe : (R st pe).pending = pe := by rw [hR]
    rw [hpe] at hrun
    refine ⟨pe, _, hrun, ?_⟩
    have hs5 : ∀ o, Sat W (rest ++ fr) (w'.putObj (w.heap.size + 1) o) := fun o => (hs3.setObj o).to fun H h => h.tail
    have hf5 : Fits ⟨P, ti, ok, none, N, ⟨.collected w.heap.size, #[]⟩ :: D, W, fr⟩ g { a with defers := [{ target := .collected w.heap.size, args := #[] }] ++ a.defers } := ⟨by show _ :: a.defers = _ :: D; rw [hf.1], hf.2.1, hf.2.2⟩
    cases pe with
    | none => exact (hn rfl).out _ _ hf5 (hs5 _)
    | some c => exact (hj c rfl).out _ _ hf5 (hs5 _)

/-! ### A function that holds one -/
def FPM (C : Ctx) (fn : Func) (post : Value → List HP → Prop) : Post :=
  bodyPostM Fence.wide 0 C.P fn fun e w' => ∃ v l', e = .returned v ∧ post v l' ∧ Sat C.W (l' ++ C.fr) w'
theorem FPM_D {P : Program} {ti : TIs} {ok : TIok P ti} {r : Option Nat} {N : Nat} {D D' : List Deferred} {W : World} {fr : List HP} {fn : Func} {post : Value → List HP → Prop} : FPM ⟨P, ti, ok, r, N, D, W, fr⟩ fn post = FPM ⟨P, ti, ok, r, N, D', W, fr⟩ fn post := rfl
theorem Does.ofM {P : Program} {ti : TIs} (ok : TIok P ti) {f : FuncId} {fn : Func} {c : Code} {args : List Value} {pre : List HP} {post : Value → List HP → Prop} (hf : P.funcs[f]? = some fn)
    (hname : (fn.name == "runtime.NumGoroutine") = false) (hb : fn.body = some c) {N : Nat} (hN : fn.ntmps = N) (hlen : Nat.ble args.length N = true)
    (h : ∀ (W : World) (fr : List HP), J ⟨P, ti, ok, none, N, [], W, fr⟩ c (FPM ⟨P, ti, ok, none, N, [], W, fr⟩ fn post) (regsOf args 0) pre) : Does P f args pre post := by
  refine ⟨fun args w => Go.Proofs.enters_of hf hname hb args w, fun W fr w hs => ?_⟩
  refine (callsIn_wide (n := 0)).1 (callsIn_of_wp_marks hf hb trivial ?_)
  refine (h W fr).out _ _ ⟨rfl, ?_, ?_⟩ hs
  · have := Nat.le_of_ble_eq_true hlen
    simp [hN]; omega
  · intro t v e
    obtain ⟨_, e⟩ := look_regsOf e
    have hlt : t < args.length := by
      rcases Nat.lt_or_ge t args.length with h' | h'
      · exact h'
      · simp [h'] at e
    simp at e
    simp [Array.getElem?_append, hlt]
    simpa [hlt] using e
section returns
variable {P : Program} {ti : TIs} {ok : TIok P ti} {N d i : Nat} {W : World} {fr : List HP} {fn : Func} {post : Value → List HP → Prop} {g : Regs} {l r : List HP}
theorem At_retM {rs : List ResultVar} {vs : List Value} (hr : fn.results.toList = rs) (m : pick1 l i = some (pt d (.deferred (some [])), r)) (hv : RV ⟨P, ti, ok, none, N, [⟨.collected d, #[]⟩], W, fr⟩ g r rs vs) {v : Value} (hret : retV vs = v)
    {l' : List HP} (hp : ∀ H, Stars r H → Stars l' H) (h : post v l') : At ⟨P, ti, ok, none, N, [⟨.collected d, #[]⟩], W, fr⟩ (FPM ⟨P, ti, ok, none, N, [], W, fr⟩ fn post .ret) g l :=
  ⟨fun a w hf hs => by
    have hs' : Sat W (pt d (.deferred (some [])) :: (r ++ fr)) w := hs.perm ((pick1_perm m).append_right _)
    have hb := hs'.at (.head _)
    show LeavesInM Fence.wide 0 P fn a.tmps _ a.defers .returning w
    rw [show a.defers = [⟨.collected d, #[]⟩] from hf.1]
    refine ⟨by simp, .inl ⟨d, _, rfl, run_takeDeferred hb, ?_⟩⟩
    have hs2 : Sat W (r ++ fr) (w.putObj d (.deferred none)) := (hs'.setObj (.deferred none)).to fun H h => h.tail
    exact ⟨_, run_results hr hv hf hs2, _, l', rfl, by rw [hret]; exact h, hs2.lift hp⟩⟩
end returns
end Go.Sep
