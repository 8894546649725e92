/-
  Our own, over any program: slices that may own nothing once they are empty; bytes divided.
-/
import Derived.Test.YtchanmljjfcplaaJm
set_option linter.unusedSimpArgs false
set_option linter.unusedVariables false
namespace Go.Sep
open Go.RowKit
/-- The slice owns its row, or it is empty, with no room. -/
def rowz (T sz : Nat) (a : Option Addr) (n cap : Nat) (cs : List Value) : HP := fun h => (n = 0 ∧ cap = 0 ∧ cs = []) ∨ row T sz a n cap cs h
theorem rowz_row {T sz n cap : Nat} {a : Option Addr} {cs : List Value} {l : List HP} {H : PH} (h : Stars (row T sz a n cap cs :: l) H) : Stars (rowz T sz a n cap cs :: l) H := h.weak fun _ => .inr
theorem rowz_nil {T sz : Nat} {a : Option Addr} {l : List HP} {H : PH} (h : Stars l H) : Stars (rowz T sz a 0 0 [] :: l) H :=
  (row_nil (T := T) (sz := sz) h).weak fun _ _ => .inl ⟨rfl, rfl, rfl⟩
theorem rowz_len {T sz m cap : Nat} {a : Option Addr} {cs : List Value} {W : World} {l : List HP} {w : World} (hs : Sat W l w) (hm : rowz T sz a m cap cs ∈ l) : cs.length = m * sz ∧ (a = none → m = 0 ∧ cap = 0) ∧ m ≤ cap := by
  obtain ⟨h1, s1, hp⟩ := hs.stars.mem hm
  rcases hp with ⟨rfl, rfl, rfl⟩ | ⟨rfl, rfl, rfl, rfl⟩ | ⟨b, pre, spare, rfl, e1, e2, e3, hb⟩
  · simp
  · simp
  · exact ⟨e1, (fun h => by cases h), e2⟩
theorem Reads.rowz {T sz m cap : Nat} {a : Option Addr} {cs : List Value} (hl : cs.length = m * sz) (hn : a = none → m = 0 ∧ cap = 0) : Reads (rowz T sz a m cap cs) sz m a cap cs := by
  refine ⟨hl, hn, fun W l w hs hm i hi => ?_⟩
  obtain ⟨h1, s1, hp⟩ := hs.stars.mem hm
  rcases hp with ⟨rfl, rfl, rfl⟩ | ⟨rfl, rfl, rfl, rfl⟩ | ⟨b, pre, spare, rfl, e1, e2, e3, hb⟩
  · simp at hi
  · simp at hi
  · have hb' : w.heap[b]? = Option.some (.cells (pre ++ cs ++ spare).toArray T (0, 0)) := s1 _ _ hb
    refine ⟨b, pre.length, rfl, ?_⟩
    rw [cell_of hb', List.append_assoc, List.getElem?_append_right (by omega), Nat.add_sub_cancel_left, List.getElem?_append_left (by omega)]
section facts
variable {C : Ctx} {g : Regs} {l : List HP}
theorem J_rowzf {c : Code} {Q : Post} {T sz m cap i : Nat} {a : Option Addr} {cs : List Value} {r : List HP} (hi : pick1 l i = some (rowz T sz a m cap cs, r)) (h : cs.length = m * sz ∧ (a = none → m = 0 ∧ cap = 0) ∧ m ≤ cap → J C c Q g l) : J C c Q g l :=
  J_fact _ (fun w hs => rowz_len hs (List.mem_append_left _ (pick1_mem hi))) h
theorem JO_rowz {opl os : List Oper} {Q : Post} {T sz m cap i : Nat} {a : Option Addr} {cs : List Value} {r : List HP} (hi : pick1 l i = some (rowz T sz a m cap cs, r)) (h1 : JO C opl Q os g (row T sz a m cap cs :: r)) (h2 : m = 0 → cap = 0 → cs = [] → JO C opl Q os g r) : JO C opl Q os g l := by
  refine ⟨fun ac w hf hs => ?_⟩
  have hs' : Sat C.W (rowz T sz a m cap cs :: (r ++ C.fr)) w := hs.perm ((pick1_perm hi).append_right _)
  obtain ⟨x1, x2, ap, s1, s2, hp, hl⟩ := hs'.stars
  rcases hp with ⟨rfl, rfl, rfl⟩ | hp
  · exact (h2 rfl rfl rfl).out ac w hf ⟨hs'.os, hs'.tape, hs'.output, hl.mono s2⟩
  · exact h1.out ac w hf ⟨hs'.os, hs'.tape, hs'.output, x1, x2, ap, s1, s2, hp, hl⟩
end facts
/-- x[:k] .. -/
theorem rowz_cut {T n cap k : Nat} {a : Option Addr} {cs : List Value} {l : List HP} {H : PH} (hk : k < n) (h : Stars (rowz T 1 a n cap cs :: l) H) : Stars (rowz T 1 a k cap (cs.take k) :: l) H := by
  have h1 : Stars (row T 1 a n cap cs :: l) H := h.weak fun _ hp => by
    rcases hp with ⟨rfl, _, _⟩ | hp
    · omega
    · exact hp
  have h2 := row_cut (k := k) (by omega) h1
  rw [Nat.mul_one] at h2
  exact rowz_row h2
/-- x[1:] .. -/
theorem rowz_tail {T n cap b o : Nat} {x : Value} {cs : List Value} {l : List HP} {H : PH} (h : Stars (rowz T 1 (some ⟨b, o, none⟩) (n + 1) cap (x :: cs) :: l) H) :
    Stars (rowz T 1 (if cap = 1 then some ⟨b, o, none⟩ else some ⟨b, o + 1, none⟩) n (cap - 1) cs :: l) H :=
  h.weak fun hh hp => by
    rcases hp with ⟨h0, _, _⟩ | ⟨h0, _⟩ | ⟨b', pre, spare, e, e1, e2, e3, hb⟩
    · omega
    · cases h0
    · injection e with e
      injection e with ea eb
      subst ea
      simp only [List.length_cons] at e1
      by_cases hc : cap = 1
      · left
        have : n = 0 := by omega
        subst this
        exact ⟨rfl, by omega, List.eq_nil_of_length_eq_zero (by omega)⟩
      · right
        rw [if_neg hc]
        refine .inr ⟨b, pre ++ [x], spare, ?_, by omega, by omega, by omega, by simpa using hb⟩
        rw [eb]; simp
section ops
variable {C : Ctx} {g : Regs} {l : List HP}
theorem OL_append0 {T e s1 s2 sz by_ : Nat} {d : TD} {z ze : List Value} {x y : Operand} {a : Option Addr} {m T2 : Nat} {news : List Value} {v2 : Value} {i2 : TyI} (ht : look C.ti T = some ⟨.slice e, s1, s2, z⟩) (he : look C.ti e = some ⟨d, sz, by_, ze⟩) (hz : ze.length = sz)
    (hx : ev g x = some (.slice a 0 0)) (hy : ev g y = some v2) (hm : 0 < m) (hsrc : Src C l sz m v2 news)
    (hT2 : look C.ti T2 = some i2) (hni : ∀ k, i2.d ≠ .int k) (hb : (2 * (0 + m) + 1024) * by_ ≤ 140737488355328) (hnm : 0 + m < 9223372036854775807) (hby : by_ ≠ 0) :
    OpL C g l (.call { callee := .builtin .append, args := #[x, y], argTypes := #[T, T2] }) (fun u l' => ∃ a' cap', u = .slice a' m cap' ∧ l' = row e sz a' m cap' news :: l) :=
  ⟨(by intro c h; cases h), fun dst ty pos af gd ac w hf hs K Q kk => by
    obtain ⟨_, d2, _, _, hu2, _, ed2, _⟩ := tyView_parts (C.ok.look hT2)
    have hni' : ∀ k, d2 ≠ .int k := fun k h => hni k (by rw [← ed2, h]; rfl)
    have hu := und_slice (C.ok.look ht) rfl
    have hsz' : ∀ w, (sizeOf e).run C.P w = .ok sz w := fun w => run_sizeOf w (C.ok.look he)
    obtain ⟨ft, _, zv, hft, _, hzv, _, _, hfb, hzc⟩ := tyView_parts (C.ok.look he)
    have hf1 : ∀ w, (typeInfo e).run C.P w = .ok ft w := fun w => run_typeInfo w hft
    have hz1 : ∀ w, (zeroValue e).run C.P w = .ok zv w := fun w => by simp [zeroValue, Sem.run_bind, run_typeInfo w hft, Result.andThen, hzv, Pure.pure]
    have hzs : zv.cells.size = sz := by rw [← hz, ← Array.length_toList]; exact congrArg List.length hzc
    obtain ⟨hlen, hlo, hread⟩ := hsrc
    have hold : ∀ k, (Builtin.firstCells sz 0 (.slice a 0 0)).run C.P { w with drawn := k } = .ok ([] : List Value).toArray { w with drawn := k } := by
      intro k
      cases a <;> simp [Builtin.firstCells, loadCells, loadCellsFrom, Pure.pure, Sem.run]
    have hnew : ∀ k, (Builtin.firstCells sz m v2).run C.P { w with drawn := k } = .ok news.toArray { w with drawn := k } := fun k => hread _ (hs.drawn k)
    obtain ⟨A1, A2⟩ := run_append (ty := ty) hu hu2 hni' hsz' hf1 hfb hz1 hlo hold hnew hb hnm hby
    obtain ⟨c, hc, hr⟩ := A2 (by omega)
    have hs2 := (hs.drawn (w.drawn + 1)).alloc (.cells ([] ++ news ++ (Builtin.zeroCells zv.cells (c - (0 + m))).toList).toArray e (0, 0))
    have hs3 : Sat C.W ((row e sz (some ⟨w.heap.size, 0, none⟩) m c news :: l) ++ C.fr) (({ w with drawn := w.drawn + 1 } : World).alloc (.cells ([] ++ news ++ (Builtin.zeroCells zv.cells (c - (0 + m))).toList).toArray e (0, 0))) := by
      refine ⟨hs2.os, hs2.tape, hs2.output, ?_⟩
      refine row_blk (spare := (Builtin.zeroCells zv.cells (c - (0 + m))).toList) (by simpa [blk] using hs2.stars) hlen (by omega) ?_
      rw [zeroCells_len, hzs, Nat.zero_add]
    have e0 : Value.slice (some ⟨w.heap.size, 0, none⟩) (0 + m) c = Value.slice (some ⟨w.heap.size, 0, none⟩) m c := by rw [Nat.zero_add]
    rw [e0] at hr
    have := run_builtin_of (P := C.P) (ρ := ac.eval) (b := .append) (xs := #[x, y]) (ts := #[T, T2]) (w := w) (d := dst) (ty := ty) (pos := pos) (af := af) (gd := gd) (n := .value (.slice (some ⟨w.heap.size, 0, none⟩) m c)) (w' := ({ w with drawn := w.drawn + 1 } : World).alloc (.cells ([] ++ news ++ (Builtin.zeroCells zv.cells (c - (0 + m))).toList).toArray e (0, 0))) (by
      simp only [builtin, List.map_toArray, List.map_cons, List.map_nil, hf.ev hx, hf.ev hy]
      rw [Sem.run_bind, hr]; rfl)
    rw [this]
    exact kk _ _ _ ⟨_, c, rfl, rfl⟩ hs3⟩
theorem OV_quo8 {t t' : TypeId} {x y : Operand} {m n : Int} (hx : ev g x = some (.int .u8 m)) (hy : ev g y = some (.int .u8 n)) (h0 : 0 ≤ m) (h1 : 0 < n) (h2 : m ≤ 255) : OpV C g (.binOp .quo t x y t') (.int .u8 (m / n)) := by
  refine ⟨(by intro c h; cases h), fun d ty pos af gd a w hf => ?_⟩
  have hne : n ≠ 0 := by omega
  have hb : (binOp .quo t (.int .u8 m) (.int .u8 n)).run C.P w = .ok (.int .u8 (m / n)) w := by
    have hd : m.tdiv n = m / n := Int.tdiv_eq_ediv_of_nonneg h0
    have h3 : 0 ≤ m / n := Int.ediv_nonneg h0 (by omega)
    have h4 : m / n ≤ m := Int.ediv_le_self _ h0
    simp only [binOp, Op.intDiv, hne, if_false, ne_eq, not_true_eq_false, hd, IntWalk.u8_in (m / n) ⟨h3, by omega⟩]
    rfl
  simp only [execOp, hf.ev hx, hf.ev hy]
  rw [Sem.run_bind, run_guarded hb]
  rfl
end ops
end Go.Sep
