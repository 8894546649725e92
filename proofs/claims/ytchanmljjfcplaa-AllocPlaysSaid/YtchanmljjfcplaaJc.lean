/-
  Our own, over any program: the judgement 'J' (a piece of code, from registers and assertions), and its rules.
-/
import Derived.Test.YtchanmljjfcplaaJb
import Derived.Shelf.Abstract
set_option linter.unusedSimpArgs false
set_option linter.unusedVariables false
namespace Go.Sep
open Go.RowKit

abbrev Post := Exit → Act → World → Prop
/-- Wherever these registers and assertions hold. -/
structure At (C : Ctx) (Q : Act → World → Prop) (g : Regs) (l : List HP) : Prop where
  out : ∀ a w, Fits C g a → Sat C.W (l ++ C.fr) w → Q a w
structure J (C : Ctx) (c : Code) (Q : Post) (g : Regs) (l : List HP) : Prop where
  out : ∀ a w, Fits C g a → Sat C.W (l ++ C.fr) w → c.wpIn (FR C.r) 0 C.P Q a w
structure JO (C : Ctx) (opl : List Oper) (Q : Post) (os : List Oper) (g : Regs) (l : List HP) : Prop where
  out : ∀ a w, Fits C g a → Sat C.W (l ++ C.fr) w → wpListIn (FR C.r) 0 C.P opl.toArray Q os a w

/-! ### Control -/
def PThen (C : Ctx) (y : Code) (Q : Post) : Post := Exit.then (fun a w => y.wpIn (FR C.r) 0 C.P Q a w) Q
def PBlock (id : Nat) (Q : Post) : Post := Exit.inBlock id Q
section control
variable {C : Ctx} {Q : Post} {g : Regs} {l : List HP} {x y : Code}
theorem J_seq (h : J C x (PThen C y Q) g l) : J C (.seq x y) Q g l := ⟨fun a w hf hs => wpIn_seq (h.out a w hf hs)⟩
theorem J_block {id : Nat} (h : J C x (PBlock id Q) g l) : J C (.block id x) Q g l := ⟨fun a w hf hs => wpIn_block (h.out a w hf hs)⟩
theorem J_skip (h : At C (Q .normal) g l) : J C .skip Q g l := ⟨fun a w hf hs => wpIn_skip (h.out a w hf hs)⟩
theorem J_label {n : Nat} (h : At C (Q .normal) g l) : J C (.label n) Q g l := ⟨fun a w hf hs => wpIn_label (h.out a w hf hs)⟩
theorem J_exit {id : Nat} (h : At C (Q (.exit id)) g l) : J C (.exit id) Q g l := ⟨fun a w hf hs => wpIn_exit (h.out a w hf hs)⟩
theorem J_ret (h : At C (Q .ret) g l) : J C .ret Q g l := ⟨fun a w hf hs => wpIn_ret (h.out a w hf hs)⟩
theorem J_cond_t {c : Operand} (hc : ev g c = some (.bool true)) (h : J C x Q g l) : J C (.cond c x y) Q g l :=
  ⟨fun a w hf hs => wpIn_cond_true (hf.ev hc) (h.out a w hf hs)⟩
theorem J_cond_f {c : Operand} (hc : ev g c = some (.bool false)) (h : J C y Q g l) : J C (.cond c x y) Q g l :=
  ⟨fun a w hf hs => wpIn_cond_false (hf.ev hc) (h.out a w hf hs)⟩
theorem J_cond {c : Operand} {t : Bool} (hc : ev g c = some (.bool t)) (h1 : t = true → J C x Q g l) (h2 : t = false → J C y Q g l) : J C (.cond c x y) Q g l :=
  ⟨fun a w hf hs => wpIn_cond_split (hf.ev hc) (fun e => (h1 e).out a w hf hs) (fun e => (h2 e).out a w hf hs)⟩
theorem J_region {id : Nat} {os : List Oper} (h : JO C os Q os g l) : J C (.region id os.toArray false) Q g l :=
  ⟨fun a w hf hs => wpIn_region_lit (h.out a w hf hs)⟩
theorem JO_nil {opl : List Oper} (h : At C (Q .normal) g l) : JO C opl Q [] g l := ⟨fun a w hf hs => wpListIn_nil (h.out a w hf hs)⟩
theorem At_then_normal (h : J C y Q g l) : At C (PThen C y Q .normal) g l := ⟨h.out⟩
theorem At_then_exit {id : Nat} (h : At C (Q (.exit id)) g l) : At C (PThen C y Q (.exit id)) g l := ⟨h.out⟩
theorem At_then_ret (h : At C (Q .ret) g l) : At C (PThen C y Q .ret) g l := ⟨h.out⟩
theorem At_block_normal {id : Nat} (h : At C (Q .normal) g l) : At C (PBlock id Q .normal) g l := ⟨h.out⟩
theorem At_block_ret {id : Nat} (h : At C (Q .ret) g l) : At C (PBlock id Q .ret) g l := ⟨h.out⟩
theorem At_block_hit {id : Nat} (h : At C (Q .normal) g l) : At C (PBlock id Q (.exit id)) g l :=
  ⟨fun a w hf hs => by unfold PBlock Exit.inBlock; simp only [if_true]; exact h.out a w hf hs⟩
theorem At_block_miss {id id' : Nat} (e : Nat.beq id' id = false) (h : At C (Q (.exit id')) g l) : At C (PBlock id Q (.exit id')) g l :=
  ⟨fun a w hf hs => by
    have hne : id' ≠ id := fun x => by subst x; simp at e
    unfold PBlock Exit.inBlock; simp only [hne, if_false]; exact h.out a w hf hs⟩

/-- The registers that are no longer wanted are let go; the assertions are put otherwise. -/
theorem J_sub {g' : Regs} {l' : List HP} (hg : SubG g' g) (hl : ∀ w, Sat C.W (l ++ C.fr) w → Sat C.W (l' ++ C.fr) w) (h : J C x Q g' l') : J C x Q g l :=
  ⟨fun a w hf hs => h.out a w (hf.sub hg) (hl w hs)⟩
theorem J_regs {g' : Regs} (hg : SubG g' g) (h : J C x Q g' l) : J C x Q g l := ⟨fun a w hf hs => h.out a w (hf.sub hg) hs⟩
theorem Sat.lift {W w : World} {l l' fr : List HP} (h : Sat W (l ++ fr) w) (k : ∀ H, Stars l H → Stars l' H) : Sat W (l' ++ fr) w :=
  h.to fun H hH => by
    obtain ⟨h1, h2, ap, s1, s2, a, b⟩ := hH.app
    exact Stars.unapp ap s1 s2 (k _ a) b
/-- The assertions, put otherwise. -/
theorem J_hp {l' : List HP} (hl : ∀ H, Stars l H → Stars l' H) (h : J C x Q g l') : J C x Q g l := ⟨fun a w hf hs => h.out a w hf (hs.lift hl)⟩
theorem JO_hp {opl os : List Oper} {l' : List HP} (hl : ∀ H, Stars l H → Stars l' H) (h : JO C opl Q os g l') : JO C opl Q os g l := ⟨fun a w hf hs => h.out a w hf (hs.lift hl)⟩
theorem At_hp {R : Act → World → Prop} {l' : List HP} (hl : ∀ H, Stars l H → Stars l' H) (h : At C R g l') : At C R g l := ⟨fun a w hf hs => h.out a w hf (hs.lift hl)⟩
theorem J_perm {l' : List HP} (p : l.Perm l') (h : J C x Q g l') : J C x Q g l := J_hp (fun _ => Stars.perm p) h
theorem JO_perm {opl os : List Oper} {l' : List HP} (p : l.Perm l') (h : JO C opl Q os g l') : JO C opl Q os g l := JO_hp (fun _ => Stars.perm p) h
/-- What the assertions tell of the heap, laid open. -/
theorem J_ex {α : Type} {p : α → HP} {r : List HP} (h : ∀ y, J C x Q g (p y :: r)) : J C x Q g ((fun H => ∃ y, p y H) :: r) :=
  ⟨fun a w hf hs => by
    obtain ⟨h1, h2, ap, s1, s2, ⟨y, hp⟩, hl⟩ := hs.stars
    exact (h y).out a w hf ⟨hs.os, hs.tape, hs.output, h1, h2, ap, s1, s2, hp, hl⟩⟩
theorem JO_ex {opl os : List Oper} {α : Type} {p : α → HP} {r : List HP} (h : ∀ y, JO C opl Q os g (p y :: r)) : JO C opl Q os g ((fun H => ∃ y, p y H) :: r) :=
  ⟨fun a w hf hs => by
    obtain ⟨h1, h2, ap, s1, s2, ⟨y, hp⟩, hl⟩ := hs.stars
    exact (h y).out a w hf ⟨hs.os, hs.tape, hs.output, h1, h2, ap, s1, s2, hp, hl⟩⟩
theorem J_pure {φ : Prop} {p : HP} {r : List HP} (h : φ → J C x Q g (p :: r)) : J C x Q g ((fun H => φ ∧ p H) :: r) :=
  ⟨fun a w hf hs => by
    obtain ⟨h1, h2, ap, s1, s2, ⟨e, hp⟩, hl⟩ := hs.stars
    exact (h e).out a w hf ⟨hs.os, hs.tape, hs.output, h1, h2, ap, s1, s2, hp, hl⟩⟩
theorem JO_pure {opl os : List Oper} {φ : Prop} {p : HP} {r : List HP} (h : φ → JO C opl Q os g (p :: r)) : JO C opl Q os g ((fun H => φ ∧ p H) :: r) :=
  ⟨fun a w hf hs => by
    obtain ⟨h1, h2, ap, s1, s2, ⟨e, hp⟩, hl⟩ := hs.stars
    exact (h e).out a w hf ⟨hs.os, hs.tape, hs.output, h1, h2, ap, s1, s2, hp, hl⟩⟩

/-! ### Loops -/
/-- A round has ended: a state of less measure is there. -/
def PRound (C : Ctx) {α : Type} (I : α → Prop) (G : α → Regs) (L : α → List HP) (μ : α → Nat) (x : α) (Q : Post) : Post :=
  Exit.then (fun a w => ∃ y, μ y < μ x ∧ I y ∧ Fits C (G y) a ∧ Sat C.W (L y ++ C.fr) w) Q
theorem J_loop {α : Type} (I : α → Prop) (G : α → Regs) (L : α → List HP) (μ : α → Nat) (x0 : α) (hI : I x0) (hg : SubG (G x0) g) (hl : ∀ H, Stars l H → Stars (L x0) H)
    (h : ∀ x, I x → J C y (PRound C I G L μ x Q) (G x) (L x)) : J C (.loop y) Q g l := by
  constructor
  intro a w hf hs
  let Inv : Act → World → Nat → Prop := fun a w n => ∃ x, μ x = n ∧ I x ∧ Fits C (G x) a ∧ Sat C.W (L x ++ C.fr) w
  have hmin : ∀ a w, (∃ n, Inv a w n) → ∃ n, Inv a w n ∧ ∀ m, Inv a w m → n ≤ m := by
    intro a w ⟨n, hn⟩
    induction n using Nat.strongRecOn with
    | _ n ih =>
      by_cases e : ∃ m, m < n ∧ Inv a w m
      · obtain ⟨m, hlt, hm⟩ := e; exact ih m hlt hm
      · exact ⟨n, hn, fun m hm => Nat.le_of_not_lt fun hlt => e ⟨m, hlt, hm⟩⟩
  let M : Act → World → Nat := fun a w => by
    classical exact if e : ∃ n, Inv a w n then (hmin a w e).choose else 0
  have hM : ∀ a w n, Inv a w n → Inv a w (M a w) ∧ M a w ≤ n := by
    intro a w n hn
    have e : ∃ n, Inv a w n := ⟨n, hn⟩
    have : M a w = (hmin a w e).choose := by simp only [M]; rw [dif_pos e]
    rw [this]
    exact ⟨(hmin a w e).choose_spec.1, (hmin a w e).choose_spec.2 n hn⟩
  refine wpIn_loop (fun a w => ∃ n, Inv a w n) M ⟨_, x0, rfl, hI, hf.sub hg, hs.lift hl⟩ ?_
  intro a w ⟨n, hn⟩
  obtain ⟨⟨x, hx, hIx, hfx, hsx⟩, _⟩ := hM a w n hn
  refine wpIn_mono ((h x hIx).out a w hfx hsx) ?_
  intro e a' w' hq
  cases e with
  | normal =>
    obtain ⟨z, hlt, hIz, hfz, hsz⟩ := hq
    have hz : Inv a' w' (μ z) := ⟨z, rfl, hIz, hfz, hsz⟩
    exact ⟨⟨_, hz⟩, Nat.lt_of_le_of_lt (hM a' w' _ hz).2 (hx ▸ hlt)⟩
  | _ => exact hq
theorem At_round {α : Type} {I : α → Prop} {G : α → Regs} {L : α → List HP} {μ : α → Nat} {x : α} (z : α) (hμ : μ z < μ x) (hI : I z) (hg : SubG (G z) g) (hl : ∀ H, Stars l H → Stars (L z) H) :
    At C (PRound C I G L μ x Q .normal) g l := ⟨fun a w hf hs => ⟨z, hμ, hI, hf.sub hg, hs.lift hl⟩⟩
theorem At_round_exit {α : Type} {I : α → Prop} {G : α → Regs} {L : α → List HP} {μ : α → Nat} {x : α} {id : Nat} (h : At C (Q (.exit id)) g l) : At C (PRound C I G L μ x Q (.exit id)) g l := ⟨h.out⟩
theorem At_round_ret {α : Type} {I : α → Prop} {G : α → Regs} {L : α → List HP} {μ : α → Nat} {x : α} (h : At C (Q .ret) g l) : At C (PRound C I G L μ x Q .ret) g l := ⟨h.out⟩

/-! ### A cut: where the ways meet again -/
def PMeet (C : Ctx) {α : Type} (I : α → Prop) (G : α → Regs) (L : α → List HP) (Q : Post) : Post :=
  Exit.then (fun a w => ∃ y, I y ∧ Fits C (G y) a ∧ Sat C.W (L y ++ C.fr) w) Q
theorem J_cut {α : Type} (I : α → Prop) (G : α → Regs) (L : α → List HP) (h : J C x (PMeet C I G L Q) g l) (k : ∀ z, I z → J C y Q (G z) (L z)) : J C (.seq x y) Q g l := by
  refine ⟨fun a w hf hs => wpIn_seq (wpIn_mono (h.out a w hf hs) ?_)⟩
  intro e a' w' hq
  cases e with
  | normal => obtain ⟨z, hIz, hfz, hsz⟩ := hq; exact (k z hIz).out a' w' hfz hsz
  | _ => exact hq
theorem At_meet {α : Type} {I : α → Prop} {G : α → Regs} {L : α → List HP} (z : α) (hI : I z) (hg : SubG (G z) g) (hl : ∀ H, Stars l H → Stars (L z) H) :
    At C (PMeet C I G L Q .normal) g l := ⟨fun a w hf hs => ⟨z, hI, hf.sub hg, hs.lift hl⟩⟩
theorem At_meet_exit {α : Type} {I : α → Prop} {G : α → Regs} {L : α → List HP} {id : Nat} (h : At C (Q (.exit id)) g l) : At C (PMeet C I G L Q (.exit id)) g l := ⟨h.out⟩
theorem At_meet_ret {α : Type} {I : α → Prop} {G : α → Regs} {L : α → List HP} (h : At C (Q .ret) g l) : At C (PMeet C I G L Q .ret) g l := ⟨h.out⟩
end control

/-! ### Functions -/
def FP (C : Ctx) (fn : Func) (post : Value → List HP → Prop) : Post :=
  bodyPost C.P fn fun e w' => ∃ v l', e = .returned v ∧ post v l' ∧ Sat C.W (l' ++ C.fr) w'
def Enters (P : Program) (f : FuncId) : Prop := ∀ args w, (callFunc f args).run P w = .ok (.enter f args) w
/-- What a function does: from assertions of the list 'pre' (others are left alone) it returns a value, and leaves assertions, of which 'post' holds. -/
def Does (P : Program) (f : FuncId) (args : List Value) (pre : List HP) (post : Value → List HP → Prop) : Prop :=
  Enters P f ∧ ∀ (W : World) (fr : List HP) (w : World), Sat W (pre ++ fr) w →
    Calls P f args.toArray w fun e w' => ∃ v l', e = .returned v ∧ post v l' ∧ Sat W (l' ++ fr) w'
theorem Does.mono {P : Program} {f : FuncId} {args : List Value} {pre : List HP} {post post' : Value → List HP → Prop} (h : Does P f args pre post) (k : ∀ v l, post v l → post' v l) : Does P f args pre post' :=
  ⟨h.1, fun W fr w hs => (h.2 W fr w hs).mono fun e w' ⟨v, l', he, hp, hs'⟩ => ⟨v, l', he, k _ _ hp, hs'⟩⟩
def regsOf : List Value → Nat → Regs
  | [], _ => []
  | v :: vs, i => (i, v) :: regsOf vs (i + 1)
theorem look_regsOf {vs : List Value} : ∀ {i t : Nat} {v : Value}, look (regsOf vs i) t = some v → i ≤ t ∧ vs[t - i]? = some v := by
  induction vs with
  | nil => intro i t v h; cases h
  | cons u us ih =>
    intro i t v h
    simp only [regsOf, look] at h
    cases b : Nat.beq i t with
    | true =>
      simp only [b, cond_true] at h
      have := Nat.eq_of_beq_eq_true b
      subst this
      exact ⟨Nat.le_refl _, by simpa using h⟩
    | false =>
      simp only [b, cond_false] at h
      obtain ⟨h1, h2⟩ := ih h
      refine ⟨by omega, ?_⟩
      have : t - i = (t - (i + 1)) + 1 := by omega
      rw [this]; simpa using h2
/-- A function's contract, out of its body's walk. -/
theorem Does.of {P : Program} {ti : TIs} (ok : TIok P ti) {f : FuncId} {fn : Func} {c : Code} {args : List Value} {pre : List HP} {post : Value → List HP → Prop} (hf : P.funcs[f]? = some fn)
    (hname : (fn.name == "runtime.NumGoroutine") = false) (hb : fn.body = some c) {N : Nat} (hN : fn.ntmps = N) (hlen : Nat.ble args.length N = true)
    (h : ∀ (W : World) (fr : List HP), J ⟨P, ti, ok, none, N, [], W, fr⟩ c (FP ⟨P, ti, ok, none, N, [], W, fr⟩ fn post) (regsOf args 0) pre) : Does P f args pre post := by
  refine ⟨fun args w => Go.Proofs.enters_of hf hname hb args w, fun W fr w hs => ?_⟩
  refine calls_of_wp hf hb ?_
  refine wpIn_wide (n := 0).1 ?_
  refine (h W fr).out _ _ ⟨rfl, ?_, ?_⟩ hs
  · have := Nat.le_of_ble_eq_true hlen
    simp [hN]; omega
  · intro t v e
    obtain ⟨_, e⟩ := look_regsOf e
    have hlt : t < args.length := by
      rcases Nat.lt_or_ge t args.length with h' | h'
      · exact h'
      · simp [h'] at e
    simp at e
    simp [Array.getElem?_append, hlt]
    simpa [hlt] using e

section returns
variable {C : Ctx} {fn : Func} {post : Value → List HP → Prop} {g : Regs} {l : List HP}
theorem At_ret0 (hD : C.D = []) (hr : fn.results = #[]) {is : List Nat} {l' r : List HP} (hp : picks l is = some (l', r)) (h : post (.tuple #[]) l') : At C (FP C fn post .ret) g l :=
  ⟨fun a w hf hs => ⟨hf.1.trans hD, _, results_none hr _ _ _, _, l', rfl, h, hs.lift fun _ k => (k.perm (picks_perm hp)).left⟩⟩
theorem At_end0 (hD : C.D = []) (hr : fn.results = #[]) {is : List Nat} {l' r : List HP} (hp : picks l is = some (l', r)) (h : post (.tuple #[]) l') : At C (FP C fn post .normal) g l :=
  ⟨fun a w hf hs => ⟨hf.1.trans hD, _, results_none hr _ _ _, _, l', rfl, h, hs.lift fun _ k => (k.perm (picks_perm hp)).left⟩⟩
theorem At_ret1 (hD : C.D = []) {t : Nat} (hr : fn.results = #[.tmp t]) {v : Value} (hv : look g t = some v) {is : List Nat} {l' r : List HP} (hp : picks l is = some (l', r)) (h : post v l') : At C (FP C fn post .ret) g l :=
  ⟨fun a w hf hs => ⟨hf.1.trans hD, _, results_tmp hr _ _ _, _, l', rfl, by rw [hf.2.2 t v hv]; exact h, hs.lift fun _ k => (k.perm (picks_perm hp)).left⟩⟩
theorem At_ret2 (hD : C.D = []) {t u : Nat} (hr : fn.results = #[.tmp t, .tmp u]) {v v' : Value} (hv : look g t = some v) (hv' : look g u = some v') {is : List Nat} {l' r : List HP} (hp : picks l is = some (l', r)) (h : post (.tuple #[v, v']) l') : At C (FP C fn post .ret) g l :=
  ⟨fun a w hf hs => ⟨hf.1.trans hD, _, results_tmp2 hr _ _ _, _, l', rfl, by rw [hf.2.2 t v hv, hf.2.2 u v' hv']; exact h, hs.lift fun _ k => (k.perm (picks_perm hp)).left⟩⟩
end returns

end Go.Sep
