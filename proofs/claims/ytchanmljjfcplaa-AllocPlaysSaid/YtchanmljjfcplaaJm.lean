/-
  Our own, over any program: slices cut with three bounds; parts of what can be read.
-/
import Derived.Test.YtchanmljjfcplaaJl
import Derived.LoopNIn
set_option linter.unusedSimpArgs false
set_option linter.unusedVariables false
namespace Go.Sep
open Go.RowKit
/-- What comes behind, shown once. -/
theorem J_tail {C : Ctx} {tail : Code} {Q Q0 : Post} {y : Code} {g : Regs} {l : List HP} {α : Type} (I : α → Prop) (G : α → Regs) (L : α → List HP) (main : (∀ z, I z → J C tail Q (G z) (L z)) → J C y Q0 g l)
    (t : ∀ z, I z → J C tail Q (G z) (L z)) : J C y Q0 g l := main t
/-! ### Loops of so many rounds at most, walked round by round -/
section rounds
variable {C : Ctx} {Q : Post} {g : Regs} {l : List HP} {y : Code} {m : Nat}
def PRnd (C : Ctx) (y : Code) (Q : Post) (m : Nat) : Post := Exit.then (Code.roundsIn (FR C.r) 0 C.P y Q m) Q
theorem J_rounds (m : Nat) (h : J C y (PRnd C y Q m) g l) : J C (.loop y) Q g l := ⟨fun a w hf hs => wpIn_loop_rounds (m + 1) (h.out a w hf hs)⟩
theorem At_rnd (h : J C y (PRnd C y Q m) g l) : At C (PRnd C y Q (m + 1) .normal) g l := ⟨h.out⟩
theorem At_rnd_exit {id : Nat} (h : At C (Q (.exit id)) g l) : At C (PRnd C y Q m (.exit id)) g l := ⟨h.out⟩
theorem At_rnd_ret (h : At C (Q .ret) g l) : At C (PRnd C y Q m .ret) g l := ⟨h.out⟩
end rounds
section ops
variable {C : Ctx} {g : Regs} {l : List HP}
theorem OV_slice3 {T e sz s1 s2 len cap : Nat} {z : List Value} {x lo hi mx : Operand} {k1 k2 k3 : IntKind} {p : Option Addr} {m n q : Int} (ht : look C.ti T = some ⟨.slice e, s1, s2, z⟩) (hsz : sizeAt C.ti e = some sz)
    (hx : ev g x = some (.slice p len cap)) (hlo : ev g lo = some (.int k1 m)) (hhi : ev g hi = some (.int k2 n)) (hmx : ev g mx = some (.int k3 q))
    (h0 : 0 ≤ m) (h1 : m ≤ n) (h2 : n ≤ q) (h3 : q ≤ cap) {p' : Option Addr} (hp : (if q.toNat = m.toNat then p else p.map (·.add (m.toNat * sz))) = p') :
    OpV C g (.slice T x (some lo) (some hi) (some mx)) (.slice p' (n.toNat - m.toNat) (q.toNat - m.toNat)) := by
  refine ⟨(by intro c h; cases h), fun d ty pos af gd a w hf => ?_⟩
  subst hp
  have hz : (sizeOf e).run C.P w = .ok sz w := sizeAt_run hsz w
  have hu := run_underlying (und_slice (C.ok.look ht) rfl) w
  have hb : (Instr.sliceBounds true len cap (some (.int k1 m)) (some (.int k2 n)) (some (.int k3 q))).run C.P w = .ok (m.toNat, n.toNat, q.toNat) w := by
    unfold Instr.sliceBounds
    have e3 := run_sliceBound (P := C.P) (k := k3) (code := .slice3Acap) w (by omega : 0 ≤ q) (y := cap) h3
    have e2 := run_sliceBound (P := C.P) (k := k2) (code := .slice3B) w (by omega : 0 ≤ n) (y := q.toNat) (by omega)
    have e1 := run_sliceBound (P := C.P) (k := k1) (code := .slice3C) w h0 (y := n.toNat) (by omega)
    simp [Sem.run_bind, Pure.pure, Sem.run, Result.andThen, e3]
    rw [e2]
    simp [Sem.run_bind, Pure.pure, Sem.run, Result.andThen, e1]
  have hr : (Instr.sliceAt T (.slice p len cap) (some (.int k1 m)) (some (.int k2 n)) (some (.int k3 q))).run C.P w = .ok (.slice (if q.toNat = m.toNat then p else p.map (·.add (m.toNat * sz))) (n.toNat - m.toNat) (q.toNat - m.toNat)) w := by
    simp only [Instr.sliceAt, Sem.run_bind, hu, Result.andThen, Instr.slice, hb, hz]
    rfl
  simp only [execOp, hf.ev hx, Option.map_some, hf.ev hlo, hf.ev hhi, hf.ev hmx]
  rw [Sem.run_bind, hr]
  rfl
end ops
/-- A part of what can be read, of elements of one cell. -/
theorem Reads.sub1 {R : HP} {m cap : Nat} {b o : Nat} {cs : List Value} (h : Reads R 1 m (Option.some ⟨b, o, none⟩) cap cs) (k n cap' : Nat) (hk : k + n ≤ m) : Reads R 1 n (Option.some ⟨b, o + k, none⟩) cap' ((cs.drop k).take n) := by
  have hl := h.len
  refine ⟨by simp; omega, (fun h => by cases h), fun W l w hs hm i hi => ⟨b, o + k, rfl, ?_⟩⟩
  obtain ⟨b', o', e, hc⟩ := h.cell W l w hs hm (k + i) (by omega)
  injection e with e
  injection e with e1 e2
  subst e1 e2
  rw [show o + k + i = o + (k + i) by omega, hc, List.getElem?_take_of_lt (by omega), List.getElem?_drop]
theorem Reads.zero {R : HP} {a : Addr} {cap sz : Nat} : Reads R sz 0 (Option.some a) cap [] := ⟨by simp, (fun h => by cases h), fun _ _ _ _ _ i hi => by simp at hi⟩
end Go.Sep
