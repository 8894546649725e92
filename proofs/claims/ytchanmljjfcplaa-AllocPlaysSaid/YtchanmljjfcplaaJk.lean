/-
  Our own, over any program: rows that slices own: cut short, and stored into.
-/
import Derived.Test.YtchanmljjfcplaaJj
set_option linter.unusedSimpArgs false
set_option linter.unusedVariables false
namespace Go.Sep
open Go.RowKit
/-- x[:k] of a slice that owns its row. -/
theorem row_cut {T sz n cap k : Nat} {a : Option Addr} {cs : List Value} {l : List HP} {H : PH} (hk : k ≤ n) (h : Stars (row T sz a n cap cs :: l) H) : Stars (row T sz a k cap (cs.take (k * sz)) :: l) H :=
  h.weak fun hh hp => by
    rcases hp with ⟨rfl, rfl, rfl, rfl⟩ | ⟨b, pre, spare, rfl, e1, e2, e3, hb⟩
    · have : k = 0 := by omega
      subst this
      exact .inl ⟨rfl, rfl, rfl, by simp⟩
    · have hle : k * sz ≤ n * sz := Nat.mul_le_mul_right _ hk
      refine .inr ⟨b, pre, cs.drop (k * sz) ++ spare, rfl, by simp; omega, by omega, ?_, ?_⟩
      · simp only [List.length_append, List.length_drop, e1, e3]
        rw [← Nat.sub_mul, ← Nat.add_mul]; congr 1; omega
      · have e : pre ++ List.take (k * sz) cs ++ (List.drop (k * sz) cs ++ spare) = pre ++ cs ++ spare := by
          simp only [List.append_assoc]
          rw [← List.append_assoc (List.take (k * sz) cs), List.take_append_drop]
        rw [e]; exact hb
theorem putL_len : ∀ {vs cs cs' : List Value} {o : Nat}, putL cs o vs = some cs' → cs'.length = cs.length
  | [], cs, cs', o, h => by simp [putL] at h; rw [h]
  | v :: vs, cs, cs', o, h => by
    simp only [putL] at h
    split at h
    · rename_i c1 h1
      obtain ⟨hlt, rfl⟩ := put1_eq h1
      rw [putL_len h]; simp
    · cases h
theorem put1_mid {pre spare : List Value} : ∀ {cs cs' : List Value} {o : Nat} {v : Value}, put1 cs o v = some cs' → put1 (pre ++ cs ++ spare) (pre.length + o) v = some (pre ++ cs' ++ spare) := by
  intro cs cs' o v h
  obtain ⟨hlt, rfl⟩ := put1_eq h
  rw [put1_set (by simp; omega)]
  simp only [List.append_assoc]
  rw [List.set_append, if_neg (by omega), Nat.add_sub_cancel_left, List.set_append, if_pos hlt]
theorem putL_mid {pre spare : List Value} : ∀ {vs cs cs' : List Value} {o : Nat}, putL cs o vs = some cs' → putL (pre ++ cs ++ spare) (pre.length + o) vs = some (pre ++ cs' ++ spare)
  | [], cs, cs', o, h => by simp [putL] at h; subst h; simp [putL]
  | v :: vs, cs, cs', o, h => by
    simp only [putL] at h
    split at h
    · rename_i c1 h1
      simp only [putL, put1_mid h1]
      exact putL_mid h
    · cases h
section ops
variable {C : Ctx} {g : Regs} {l : List HP}
/-- What an operation comes to, told otherwise. -/
theorem OpL.to {o : Op} {R R' : Value → List HP → Prop} (h : OpL C g l o R) (k : ∀ v l', R v l' → ∃ l2, R' v l2 ∧ ∀ H, Stars l' H → Stars l2 H) : OpL C g l o R' :=
  ⟨h.nd, fun dst ty pos af gd a w hf hs K Q kk => h.out dst ty pos af gd a w hf hs K Q fun v l' w' hr hs' => by
    obtain ⟨l2, hr2, hl⟩ := k v l' hr
    exact kk v l2 w' hr2 (hs'.lift hl)⟩
theorem OV_remk {k : IntKind} {t t' : TypeId} {x y : Operand} {m n : Int} (hx : ev g x = some (.int k m)) (hy : ev g y = some (.int k n)) (h0 : 0 ≤ m) (h1 : 0 < n) : OpV C g (.binOp .rem t x y t') (.int k (m % n)) := by
  refine ⟨(by intro c h; cases h), fun d ty pos af gd a w hf => ?_⟩
  have hne : n ≠ 0 := by omega
  have hb : (binOp .rem t (.int k m) (.int k n)).run C.P w = .ok (.int k (m % n)) w := by
    have hd : m.tmod n = m % n := Int.tmod_eq_emod_of_nonneg h0
    simp only [binOp, Op.intDiv, hne, if_false, ne_eq, not_true_eq_false, hd]
    rfl
  simp only [execOp, hf.ev hx, hf.ev hy]
  have hg : (eqGuard .rem t x y (.int k m) (.int k n)).run C.P w = .ok () w := by rfl
  first
    | (rw [Sem.run_bind, hb]; rfl)
    | (simp only [Sem.run_bind, hg, hb, Result.andThen]; rfl)
/-- An element of a row, or a part of one, told otherwise. -/
theorem OL_storeR {T b o T' sz i k n m cap : Nat} {x y : Operand} {cs cs' vs : List Value} {v : Value} {r : List HP} (hx : ev g x = some (ptr b (o + k))) (hy : ev g y = some v) (hv : cellsL v = some vs) (hn : sizeAt C.ti T = some n) (hl : vs.length = n) (hp : plainL vs = true)
    (hm : pick1 l i = some (row T' sz (some ⟨b, o, none⟩) m cap cs, r)) (hc : putL cs k vs = some cs') : OpL C g l (.store T x y) (fun _ l' => l' = row T' sz (some ⟨b, o, none⟩) m cap cs' :: r) :=
  ⟨(by intro c h; cases h), fun dst ty pos af gd a w hf hs K Q kk => by
    have hs' : Sat C.W (row T' sz (some ⟨b, o, none⟩) _ cap cs :: (r ++ C.fr)) w := hs.perm ((pick1_perm hm).append_right _)
    obtain ⟨h1, h2, ap, s1, s2, hp', hl'⟩ := hs'.stars
    rcases hp' with ⟨e, _⟩ | ⟨b', pre, spare, e, e1, e2, e3, hb⟩
    · cases e
    · injection e with e
      injection e with eb eo
      subst eb eo
      have hs2 : Sat C.W (blk b (pre ++ cs ++ spare) T' :: (r ++ C.fr)) w := ⟨hs'.os, hs'.tape, hs'.output, h1, h2, ap, s1, s2, hb, hl'⟩
      have e : v.cells.toList = vs := litL_eq hv
      obtain ⟨w', hr, hs''⟩ := run_storeCells (P := C.P) vs w C.W _ b (pre.length + k) 0 T' _ _ hs2 (plainL_mem hp) (putL_mid hc)
      have hsz : v.cells.size = n := by rw [← hl, ← e]; simp
      simp only [execOp, hf.ev hx, hf.ev hy, ptr, Instr.storeAt, Instr.sureAddr, storeVar, Sem.run_bind, Sem.run, Result.andThen, Pure.pure, sizeAt_run hn w, hsz, ne_eq, not_true_eq_false, if_false, e, hr, Oper.uponIn]
      refine kk _ _ _ rfl ⟨hs''.os, hs''.tape, hs''.output, hs''.stars.weak fun hh hbb => .inr ⟨b, pre, spare, rfl, by rw [putL_len hc]; exact e1, e2, e3, hbb⟩⟩⟩
end ops
end Go.Sep
