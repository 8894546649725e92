/-
  Our own, over any program: results that lie in memory; comparisons of structs, pointers, slices with nil.
-/
import Derived.Test.YtchanmljjfcplaaJg
set_option linter.unusedSimpArgs false
set_option linter.unusedVariables false
namespace Go.Sep
open Go.RowKit

/-- What result variables hold. -/
inductive RV (C : Ctx) (g : Regs) (l : List HP) : List ResultVar → List Value → Prop
  | nil : RV C g l [] []
  | tmp {t : Tmp} {v : Value} {rs : List ResultVar} {vs : List Value} (h : look g t = some v) (k : RV C g l rs vs) : RV C g l (.tmp t :: rs) (v :: vs)
  | cell {t T b o T' : Nat} {cs : List Value} {v : Value} {rs : List ResultVar} {vs : List Value} (h : look g t = some (ptr b o)) (ha : aggAt C.ti T = some false) (m : blk b cs T' ∈ l) (hc : cs[o]? = some v) (k : RV C g l rs vs) : RV C g l (.cell t T :: rs) (v :: vs)
  | agg {t T b o T' n : Nat} {cs us : List Value} {rs : List ResultVar} {vs : List Value} (h : look g t = some (ptr b o)) (ha : aggAt C.ti T = some true) (hn : sizeAt C.ti T = some n) (m : blk b cs T' ∈ l) (hc : takeL cs o n = some us) (k : RV C g l rs vs) : RV C g l (.cell t T :: rs) (.agg us.toArray :: vs)
def resF (tm : Array Value) : ResultVar → Sem Value
  | .tmp t => Pure.pure (tm.getD t undef)
  | .cell a t => do loadVar t (← asAddr (tm.getD a undef))
theorem run_resF_cell {C : Ctx} {tm : Array Value} {x t b o : Nat} {v : Value} {w : World} (h : tm.getD x undef = ptr b o) (hl : (loadVar t ⟨b, o, none⟩).run C.P w = .ok v w) : (resF tm (.cell x t)).run C.P w = .ok v w := by
  simp only [resF, h, ptr, asAddr, Sem.run_bind, Pure.pure, Sem.run, Result.andThen, hl]
theorem RV.run {C : Ctx} {g : Regs} {l : List HP} {rs : List ResultVar} {vs : List Value} (h : RV C g l rs vs) {a : Act} {w : World} (hf : Fits C g a) (hs : Sat C.W (l ++ C.fr) w) :
    (rs.mapM (resF a.tmps)).run C.P w = .ok vs w := by
  have step : ∀ (r : ResultVar) (rs : List ResultVar) (v : Value) (vs : List Value), (resF a.tmps r).run C.P w = .ok v w → (rs.mapM (resF a.tmps)).run C.P w = .ok vs w → ((r :: rs).mapM (resF a.tmps)).run C.P w = .ok (v :: vs) w := by
    intro r rs v vs h1 h2
    rw [List.mapM_cons, Sem.run_bind, h1]
    simp only [Result.andThen]
    rw [Sem.run_bind, h2]
    rfl
  induction h with
  | nil => rfl
  | tmp h k ih => exact step _ _ _ _ (by rw [← hf.2.2 _ _ h]; rfl) ih
  | cell h ha m hc k ih =>
    have hb := hs.blk (List.mem_append_left _ m)
    refine step _ _ _ _ (run_resF_cell (hf.2.2 _ _ h) ?_) ih
    simp only [loadVar, Sem.run_bind, aggAt_run ha w, Result.andThen, Bool.false_eq_true, if_false]
    exact run_load ((cell_of hb _).trans hc)
  | agg h ha hn m hc k ih =>
    have hb := hs.blk (List.mem_append_left _ m)
    refine step _ _ _ _ (run_resF_cell (hf.2.2 _ _ h) ?_) ih
    have hl := run_loadCells (P := C.P) hb _ _ 0 _ #[] hc
    simp only [loadVar, loadCells, Sem.run_bind, aggAt_run ha w, Result.andThen, if_true, sizeAt_run hn w, hl]
    simp [Pure.pure, Sem.run]
/-- One result, or a tuple of them. -/
def retV : List Value → Value
  | [v] => v
  | vs => .tuple vs.toArray
theorem run_results {C : Ctx} {g : Regs} {l : List HP} {fn : Func} {rs : List ResultVar} {vs : List Value} (hr : fn.results.toList = rs) (h : RV C g l rs vs) {a : Act} {w : World} (hf : Fits C g a) (hs : Sat C.W (l ++ C.fr) w) :
    (results fn a.tmps).run C.P w = .ok (retV vs) w := by
  subst hr
  have h1 := h.run hf hs
  have e : results fn a.tmps = (do let vs ← fn.results.mapM (resF a.tmps); Pure.pure (if h : vs.size = 1 then vs[0] else .tuple vs) : Sem Value) := by
    unfold results
    congr 1
  rw [e, Sem.run_bind, Array.mapM_eq_mapM_toList, Sem.run_map, h1]
  simp only [Result.andThen]
  cases vs with
  | nil => rfl
  | cons v vs =>
    cases vs with
    | nil => rfl
    | cons u us => rfl

section returns
variable {C : Ctx} {fn : Func} {post : Value → List HP → Prop} {g : Regs} {l : List HP}
theorem At_ret (hD : C.D = []) {rs : List ResultVar} {vs : List Value} (hr : fn.results.toList = rs) (hv : RV C g l rs vs) {v : Value} (hret : retV vs = v) {is : List Nat} {l' r : List HP} (hp : picks l is = some (l', r)) (h : post v l') : At C (FP C fn post .ret) g l :=
  ⟨fun a w hf hs => ⟨hf.1.trans hD, _, run_results hr hv hf hs, _, l', rfl, by rw [hret]; exact h, hs.lift fun _ k => (k.perm (picks_perm hp)).left⟩⟩
theorem At_end (hD : C.D = []) {rs : List ResultVar} {vs : List Value} (hr : fn.results.toList = rs) (hv : RV C g l rs vs) {v : Value} (hret : retV vs = v) {is : List Nat} {l' r : List HP} (hp : picks l is = some (l', r)) (h : post v l') : At C (FP C fn post .normal) g l :=
  ⟨fun a w hf hs => ⟨hf.1.trans hD, _, run_results hr hv hf hs, _, l', rfl, by rw [hret]; exact h, hs.lift fun _ k => (k.perm (picks_perm hp)).left⟩⟩
/-- .. where what is handed back is put otherwise first. -/
theorem At_ret' (hD : C.D = []) {rs : List ResultVar} {vs : List Value} (hr : fn.results.toList = rs) (hv : RV C g l rs vs) {v : Value} (hret : retV vs = v) {l' : List HP} (hp : ∀ H, Stars l H → Stars l' H) (h : post v l') : At C (FP C fn post .ret) g l :=
  ⟨fun a w hf hs => ⟨hf.1.trans hD, _, run_results hr hv hf hs, _, l', rfl, by rw [hret]; exact h, hs.lift hp⟩⟩
theorem At_end' (hD : C.D = []) {rs : List ResultVar} {vs : List Value} (hr : fn.results.toList = rs) (hv : RV C g l rs vs) {v : Value} (hret : retV vs = v) {l' : List HP} (hp : ∀ H, Stars l H → Stars l' H) (h : post v l') : At C (FP C fn post .normal) g l :=
  ⟨fun a w hf hs => ⟨hf.1.trans hD, _, run_results hr hv hf hs, _, l', rfl, by rw [hret]; exact h, hs.lift hp⟩⟩
end returns

/-! ### Comparisons -/
section eq
variable {C : Ctx} {g : Regs}
theorem run_eql_of {P : Program} {t : Nat} {x y : Operand} {u v : Value} {b : Bool} {w : World} (hg : (eqGuard .eql t x y u v).run P w = .ok () w) (hb : (binOp .eql t u v).run P w = .ok (.bool b) w) :
    (do eqGuard .eql t x y u v; binOp .eql t u v : Sem Value).run P w = .ok (.bool b) w := by
  rw [Sem.run_bind, hg]; exact hb
/-- p == nil. -/
def nilEq : Value → Value → Option Bool
  | .pointer a, .pointer none => some a.isNone
  | .pointer none, .pointer (some _) => some false
  | .slice a _ _, .slice none _ _ => some a.isNone
  | .nilFunc, .nilFunc => some true
  | .func _ _ _, .nilFunc => some false
  | .map a, .map none => some a.isNone
  | _, _ => none
def nilTD : TD → Bool
  | .ptr _ => true
  | .slice _ => true
  | .func => true
  | .map _ _ => true
  | _ => false
def fitNil : TD → Value → Bool
  | .ptr _, .pointer _ => true
  | .slice _, .slice _ _ _ => true
  | .func, .nilFunc => true
  | .func, .func _ _ _ => true
  | .map _ _, .map _ => true
  | _, _ => false
theorem run_nilEq {t : Nat} {i : TyI} {u v : Value} {b : Bool} (ht : look C.ti t = some i) (hu : fitNil i.d u = true) (h : nilEq u v = some b) (w : World) : (Op.equal t u v).run C.P w = .ok b w := by
  obtain ⟨f, d, z, hf, hu', hz, e1, _⟩ := tyView_parts (C.ok.look ht)
  unfold nilEq at h
  unfold Op.equal
  show (Op.equalIn (9999 + 1) t u v).run C.P w = _
  rw [Op.equalIn, Sem.run_bind, run_underlying hu' w]
  simp only [Result.andThen]
  rw [← e1] at hu
  split at h
  case h_1 a => cases a <;> (cases d <;> first | (simp [tdOf, fitNil] at hu; done) | (injection h with h; subst h; rfl))
  case h_2 => cases d <;> first | (simp [tdOf, fitNil] at hu; done) | (injection h with h; subst h; rfl)
  case h_3 a _ _ _ _ => cases a <;> (cases d <;> first | (simp [tdOf, fitNil] at hu; done) | (injection h with h; subst h; rfl))
  case h_4 => cases d <;> first | (simp [tdOf, fitNil] at hu; done) | (injection h with h; subst h; rfl)
  case h_5 => cases d <;> first | (simp [tdOf, fitNil] at hu; done) | (injection h with h; subst h; rfl)
  case h_6 a => cases a <;> (cases d <;> first | (simp [tdOf, fitNil] at hu; done) | (injection h with h; subst h; rfl))
  case h_7 => cases h
theorem OV_eqnil {t t' : TypeId} {i : TyI} {x y : Operand} {u v : Value} {b : Bool} (ht : look C.ti t = some i) (hx : ev g x = some u) (hy : ev g y = some v) (hu : fitNil i.d u = true) (h : nilEq u v = some b) : OpV C g (.binOp .eql t x y t') (.bool b) := by
  refine ⟨(by intro c h; cases h), fun d ty pos af gd a w hf => ?_⟩
  have he := run_nilEq ht hu h w
  have hg : (eqGuard .eql t x y u v).run C.P w = .ok () w := by
    unfold nilEq at h
    split at h <;> first | rfl | cases h
  have hb : (binOp .eql t u v).run C.P w = .ok (.bool b) w := by
    have : binOp .eql t u v = (do Pure.pure (.bool (← Op.equal t u v)) : Sem Value) := by
      unfold nilEq at h
      split at h <;> first | rfl | cases h
    rw [this, Sem.run_bind, he]; rfl
  simp only [execOp, hf.ev hx, hf.ev hy]
  rw [Sem.run_bind, run_eql_of hg hb]
  rfl
theorem OV_neqnil {t t' : TypeId} {i : TyI} {x y : Operand} {u v : Value} {b : Bool} (ht : look C.ti t = some i) (hx : ev g x = some u) (hy : ev g y = some v) (hu : fitNil i.d u = true) (h : nilEq u v = some b) : OpV C g (.binOp .neq t x y t') (.bool (!b)) := by
  refine ⟨(by intro c h; cases h), fun d ty pos af gd a w hf => ?_⟩
  have he := run_nilEq ht hu h w
  have hb : (do eqGuard .neq t x y u v; binOp .neq t u v : Sem Value).run C.P w = .ok (.bool (!b)) w := by
    have : (do eqGuard .neq t x y u v; binOp .neq t u v : Sem Value) = (do Pure.pure (.bool (!(← Op.equal t u v))) : Sem Value) := by
      unfold nilEq at h
      split at h <;> first | rfl | cases h
    rw [this, Sem.run_bind, he]; rfl
  simp only [execOp, hf.ev hx, hf.ev hy]
  rw [Sem.run_bind, hb]
  rfl
end eq
end Go.Sep
