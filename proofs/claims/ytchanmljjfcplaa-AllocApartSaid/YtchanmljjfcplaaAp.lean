/-
  Our own: the allocator's laws: what stays of other objects, and that a new one stands apart.
-/
import Derived.Test.YtchanmljjfcplaaLaAw
set_option linter.unusedVariables false
set_option linter.unusedSimpArgs false
namespace Go.Proofs.Ytchanmljjfcplaa
open Go.Sep
def Kept (ws : List Int) (st : List Bool) (ws' : List Int) (st' : List Bool) : Prop := ∀ q : Nat, st[q]? = some true → unK (ws.getD q 0) ≠ 15 → st'[q]? = some true ∧ ws'[q]? = ws[q]?
theorem Kept.refl {ws : List Int} {st : List Bool} : Kept ws st ws st := fun q h _ => ⟨h, rfl⟩
theorem Kept.trans {ws ws' ws2 : List Int} {st st' st2 : List Bool} (h : Kept ws st ws' st') (k : Kept ws' st' ws2 st2) : Kept ws st ws2 st2 := fun q hs hk => by
  obtain ⟨a1, a2⟩ := h q hs hk
  obtain ⟨b1, b2⟩ := k q a1 (by rw [List.getD_eq_getElem?_getD, a2, ← List.getD_eq_getElem?_getD]; exact hk)
  exact ⟨b1, b2.trans a2⟩
/-- A new object, apart from those that are no fillers. -/
structure Fresh (n : Nat) (ws : List Int) (st : List Bool) (ws' : List Int) (st' : List Bool) (k : Nat) (kd : Int) (m : Nat) (pt : Int) : Prop where
  le : k + 1 + m ≤ n
  good : goodB kd m pt = true
  fst : st'[k]? = some true
  hd : ws'[k]? = some (packI kd m pt)
  fws : ∀ j : Nat, j < m → ws'[k + 1 + j]? = some 0
  far : ∀ (q : Nat) (w : Int), st[q]? = some true → ws[q]? = some w → unK w ≠ 15 → q + 1 + (unN w).toNat ≤ k ∨ k + 1 + m ≤ q
theorem place_law {n T : Nat} {ws : List Int} {st : List Bool} (h : HT n T ws st) (hR : RefsOk ws st) (kd ln pt : Int) :
    Kept ws st (placeW n T ws kd ln pt) (placeS n T st kd ln pt) ∧ RefsOk (placeW n T ws kd ln pt) (placeS n T st kd ln pt) ∧
    (placeC n T kd ln pt = 0 → ∃ m : Nat, ln = m ∧ Fresh n ws st (placeW n T ws kd ln pt) (placeS n T st kd ln pt) T kd m pt) := by
  have hwl := h.wl
  have hsl := h.sl
  unfold placeW placeS
  by_cases hc : placeC n T kd ln pt = 0
  · obtain ⟨m, rfl, hg, hf⟩ := place_zero hc
    rw [if_pos hc, if_pos hc, Int.toNat_natCast]
    have hst : ∀ q : Nat, st[q]? = some true → (st.set T true)[q]? = some true := fun q hq => by
      have := h.lt hq
      rw [List.getElem?_set_ne (by omega)]
      exact hq
    refine ⟨fun q hs _ => ⟨hst q hs, ?_⟩, hR.place h hg hf, fun _ => ⟨m, rfl, hf, hg, ?_, lay_at (by omega), fun j hj => zeroAt_in (by simp; omega) (by omega) (by omega), fun q w hs hw _ => ?_⟩⟩
    · have := h.lt hs
      exact lay_out (by omega) (.inl this)
    · rw [List.getElem?_set, if_pos rfl, if_pos (by omega)]
    · obtain ⟨w0, b1, b2, b3, b4, b5⟩ := h.obj q hs
      rw [hw] at b1; injection b1 with b1; subst b1
      exact .inl b3
  · rw [if_neg hc, if_neg hc]
    exact ⟨Kept.refl, hR, fun e => absurd e hc⟩
theorem split_law {n T : Nat} {ws : List Int} {st : List Bool} (h : HT n T ws st) (hR : RefsOk ws st) (b kd ln pt : Int) :
    Kept ws st (splitW ws st b kd ln pt) (splitS ws st b kd ln pt) ∧ RefsOk (splitW ws st b kd ln pt) (splitS ws st b kd ln pt) ∧
    (splitC ws st b kd ln pt = 0 → ∃ k m : Nat, b = k ∧ ln = m ∧ Fresh n ws st (splitW ws st b kd ln pt) (splitS ws st b kd ln pt) k kd m pt) := by
  refine ⟨?_, hR.splitW h b kd ln pt, ?_⟩
  all_goals
    have hwl := h.wl
    have hsl := h.sl
    have htn := h.tn
    by_cases hc : splitC ws st b kd ln pt = 0
    case neg =>
      first
        | exact fun e => absurd e hc
        | (unfold splitW splitS; rw [if_neg hc, if_neg hc]; exact Kept.refl)
    obtain ⟨i, m, w, rfl, rfl, hs, hw, hk, hg, hle, hN, hT⟩ := splitC_zero h hc
    have hi := (List.getElem?_eq_some_iff.1 hs).1
    have shape : (∀ q : Nat, (q < i ∨ i + 1 + (unN w).toNat ≤ q) → (splitW ws st i kd m pt)[q]? = ws[q]?) ∧ (splitW ws st i kd m pt)[i]? = some (packI kd m pt) ∧ (∀ j : Nat, j < m → (splitW ws st i kd m pt)[i + 1 + j]? = some 0) ∧ (∀ q : Nat, st[q]? = some true → (splitS ws st i kd m pt)[q]? = some true) := by
      have hset : ∀ (st : List Bool) (x q : Nat), st[q]? = some true → (st.set x true)[q]? = some true := fun st x q hq => by
        rw [List.getElem?_set]
        split
        · rename_i e; subst e; rw [if_pos (List.getElem?_eq_some_iff.1 hq).1]
        · exact hq
      unfold splitW splitS
      rw [if_pos hc, if_pos hc, Int.toNat_natCast, getD_of hw, Int.toNat_natCast]
      by_cases e : unN w = m
      · rw [if_pos e, if_pos e]
        exact ⟨fun q hq => lay_out (by omega) (by omega), lay_at (by omega), fun j hj => zeroAt_in (by simp; omega) (by omega) (by omega), fun q hq => hset _ _ _ hq⟩
      · rw [if_neg e, if_neg e]
        obtain ⟨r, hr⟩ : ∃ r : Nat, (unN w).toNat = m + 1 + r := ⟨(unN w).toNat - m - 1, by omega⟩
        rw [show unN w - (m : Int) - 1 = (r : Int) by omega, Int.toNat_natCast]
        have hl1 : (zeroAt (ws.set i (packI kd m pt)) (i + 1) m).length = ws.length := by rw [zeroAt_len (by simp; omega)]; simp
        have hb2 : i + 1 + m + 1 + r ≤ (zeroAt (ws.set i (packI kd m pt)) (i + 1) m).length := by omega
        exact ⟨fun q hq => (lay_out hb2 (by omega)).trans (lay_out (by omega) (by omega)), (lay_out hb2 (by omega)).trans (lay_at (by omega)), fun j hj => (lay_out hb2 (by omega)).trans (zeroAt_in (by simp; omega) (by omega) (by omega)), fun q hq => hset _ _ _ (hset _ _ _ hq)⟩
    obtain ⟨s1, s2, s3, s4⟩ := shape
  · intro q hq hqk
    have hne : q ≠ i := fun e => by subst e; rw [getD_of hw] at hqk; exact hqk hk
    exact ⟨s4 q hq, s1 q (h.apart hs hw hq hne)⟩
  · refine fun _ => ⟨i, m, rfl, rfl, by omega, hg, s4 i hs, s2, s3, fun q w' hq hqw hqk => ?_⟩
    have hne : q ≠ i := fun e => by subst e; rw [hw] at hqw; injection hqw with e2; subst e2; exact hqk hk
    rcases h.apart hs hw hq hne with c | c
    · rcases h.apart hq hqw hs (Ne.symm hne) with d | d
      · omega
      · exact .inl d
    · exact .inr (by omega)
theorem Fresh.pre {n k m : Nat} {ws ws' ws2 : List Int} {st st' st2 : List Bool} {kd pt : Int} (h : Kept ws st ws' st') (f : Fresh n ws' st' ws2 st2 k kd m pt) : Fresh n ws st ws2 st2 k kd m pt :=
  ⟨f.le, f.good, f.fst, f.hd, f.fws, fun q w hs hw hk => by
    obtain ⟨a1, a2⟩ := h q hs (by rw [getD_of hw]; exact hk)
    exact f.far q w a1 (a2.trans hw) hk⟩
theorem alloc_law {n : Nat} {size : Int} {s : AS} (h : HT n s.T s.ws s.st) (hR : RefsOk s.ws s.st) (i kd ln pt : Int) :
    Kept s.ws s.st (allocR n size s i kd ln pt).s.ws (allocR n size s i kd ln pt).s.st ∧ RefsOk (allocR n size s i kd ln pt).s.ws (allocR n size s i kd ln pt).s.st ∧
    ((allocR n size s i kd ln pt).e = 0 → ∃ k m : Nat, (allocR n size s i kd ln pt).at_ = k ∧ ln = m ∧ kd ≠ 15 ∧ Fresh n s.ws s.st (allocR n size s i kd ln pt).s.ws (allocR n size s i kd ln pt).s.st k kd m pt) := by
  have hp : ∀ (bu : List Int), kd ≠ 15 → (placeR n ⟨s.T, s.ws, s.st, bu⟩ kd ln pt).e = 0 → ∃ k m : Nat, (placeR n ⟨s.T, s.ws, s.st, bu⟩ kd ln pt).at_ = k ∧ ln = m ∧ kd ≠ 15 ∧ Fresh n s.ws s.st (placeW n s.T s.ws kd ln pt) (placeS n s.T s.st kd ln pt) k kd m pt := fun bu hk he => by
    have hc : placeC n s.T kd ln pt = 0 := by
      by_cases e : placeC n s.T kd ln pt = 0
      · exact e
      · have : placeE n s.T kd ln pt = 0 := he
        unfold placeE at this
        rw [if_neg e] at this
        cases this
    obtain ⟨m, hm, hF⟩ := (place_law h hR kd ln pt).2.2 hc
    exact ⟨s.T, m, (if_pos hc : placeA n s.T kd ln pt = s.T), hm, hk, hF⟩
  unfold allocR
  split
  · exact ⟨Kept.refl, hR, fun e => by cases e⟩
  rename_i hno
  have hk : kd ≠ 15 := fun e => hno (.inr (.inr e))
  split
  · exact ⟨(place_law h hR kd ln pt).1, (place_law h hR kd ln pt).2.1, hp s.bu hk⟩
  split
  · split
    · obtain ⟨a1, a2, a3⟩ := place_law h hR 15 (size - 1) 0
      obtain ⟨c1, c2, c3⟩ := split_law (h.placeB 15 (size - 1) 0) a2 ((s.bu.set i.toNat s.T).getD i.toNat 0) kd ln pt
      refine ⟨a1.trans c1, c2, fun e => ?_⟩
      obtain ⟨k, m, e1, e2, e3⟩ := c3 e
      exact ⟨k, m, e1, e2, hk, e3.pre a1⟩
    · exact ⟨(place_law h hR kd ln pt).1, (place_law h hR kd ln pt).2.1, hp _ hk⟩
  · obtain ⟨c1, c2, c3⟩ := split_law h hR (s.bu.getD i.toNat 0) kd ln pt
    refine ⟨c1, c2, fun e => ?_⟩
    obtain ⟨k, m, e1, e2, e3⟩ := c3 e
    exact ⟨k, m, e1, e2, hk, e3⟩
end Go.Proofs.Ytchanmljjfcplaa
