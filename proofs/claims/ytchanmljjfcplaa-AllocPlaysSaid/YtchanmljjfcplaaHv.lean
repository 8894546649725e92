/-
  Our own: heaps with any top: field, leads, astray, Write, Split, Place, and what stays true of a heap and of its references.
-/
import Derived.Test.YtchanmljjfcplaaHu
set_option linter.unusedVariables false
set_option linter.unusedSimpArgs false
namespace Go.Proofs.Ytchanmljjfcplaa
open Go.Sep
/-- A heap of n words, T of which are taken: where an object begins there is a head, its words end where the next one begins. -/
structure HT (n T : Nat) (ws : List Int) (st : List Bool) : Prop where
  wl : ws.length = n
  sl : st.length = n
  nb : n ≤ 65536
  tn : T ≤ n
  w64 : ∀ w ∈ ws, In64 w
  zero : T = 0 ∨ st[0]? = some true
  obj : ∀ i : Nat, st[i]? = some true → ∃ w, ws[i]? = some w ∧ wordB w = true ∧ i + 1 + (unN w).toNat ≤ T ∧ (i + 1 + (unN w).toNat = T ∨ st[i + 1 + (unN w).toNat]? = some true) ∧ ∀ j, i < j → j < i + 1 + (unN w).toNat → st[j]? ≠ some true
theorem HT.lt {n T : Nat} {ws : List Int} {st : List Bool} (h : HT n T ws st) {i : Nat} (hi : st[i]? = some true) : i < T := by
  obtain ⟨w, _, _, h1, _⟩ := h.obj i hi
  omega
def leadsB (ws : List Int) (st : List Bool) (v : Int) : Bool := decide (v = 0 ∨ (1 ≤ v ∧ st[(v - 1).toNat]? = some true ∧ unK (ws.getD (v - 1).toNat 0) ≠ 15))
/-- All references lead to objects. -/
def RefsOk (ws : List Int) (st : List Bool) : Prop := ∀ (i : Nat) (w : Int), st[i]? = some true → ws[i]? = some w → ∀ j : Nat, (j : Int) < unP w → leadsB ws st (ws.getD (i + 1 + j) 0) = true
theorem HT.new {n : Nat} (h : n ≤ 65536) : HT n 0 (List.replicate n 0) (List.replicate n false) :=
  ⟨by simp, by simp, h, Nat.zero_le _, fun w hw => by rw [List.eq_of_mem_replicate hw]; exact in64_zero, .inl rfl, fun i hi => by
    rw [List.getElem?_replicate] at hi
    split at hi <;> cases hi⟩
theorem RefsOk.new {n : Nat} : RefsOk (List.replicate n 0) (List.replicate n false) := fun i w hi => by
  rw [List.getElem?_replicate] at hi
  split at hi <;> cases hi
theorem getD_of {ws : List Int} {i : Nat} {w d : Int} (h : ws[i]? = some w) : ws.getD i d = w := by rw [List.getD_eq_getElem?_getD, h]; rfl
theorem leadsB_zero {ws : List Int} {st : List Bool} : leadsB ws st 0 = true := decide_eq_true (.inl rfl)
/-- What leads somewhere leads there still, where the heads stand as they did. -/
theorem leadsB_keep {ws ws' : List Int} {st st' : List Bool} {v : Int} (h : leadsB ws st v = true) (k : ∀ i : Nat, st[i]? = some true → unK (ws.getD i 0) ≠ 15 → st'[i]? = some true ∧ unK (ws'.getD i 0) ≠ 15) : leadsB ws' st' v = true := by
  rcases of_decide_eq_true h with h | ⟨h1, h2, h3⟩
  · exact decide_eq_true (.inl h)
  · obtain ⟨a, b⟩ := k _ h2 h3
    exact decide_eq_true (.inr ⟨h1, a, b⟩)
section keeps
variable {n T : Nat} {ws : List Int} {st : List Bool}
theorem HT.write (h : HT n T ws st) (i m : Nat) (w word : Int) (hs : st[i]? = some true) (hw : ws[i]? = some w) (hm : (m : Int) < unN w) (h64 : In64 word) : HT n T (ws.set (i + 1 + m) word) st := by
  obtain ⟨w0, b1, b2, b3, b4, b5⟩ := h.obj i hs
  rw [hw] at b1; injection b1 with b1; subst b1
  have hno : st[i + 1 + m]? ≠ some true := b5 _ (by omega) (by omega)
  refine ⟨by simp [h.wl], h.sl, h.nb, h.tn, fun x hx => ?_, h.zero, fun j hj => ?_⟩
  · rcases List.mem_or_eq_of_mem_set hx with hx | rfl
    · exact h.w64 x hx
    · exact h64
  · obtain ⟨w', a1, a2, a3, a4⟩ := h.obj j hj
    refine ⟨w', ?_, a2, a3, a4⟩
    rw [List.getElem?_set_ne (fun e => by subst e; exact hno hj)]
    exact a1
theorem RefsOk.write (h : HT n T ws st) (hR : RefsOk ws st) (i m : Nat) (w word : Int) (hs : st[i]? = some true) (hw : ws[i]? = some w) (hm : (m : Int) < unN w) (hl : (m : Int) < unP w → leadsB ws st word = true) : RefsOk (ws.set (i + 1 + m) word) st := by
  obtain ⟨w0, b1, b2, b3, b4, b5⟩ := h.obj i hs
  rw [hw] at b1; injection b1 with b1; subst b1
  have hno : st[i + 1 + m]? ≠ some true := b5 _ (by omega) (by omega)
  have hwl := h.wl
  have htn := h.tn
  have keep : ∀ q : Nat, st[q]? = some true → (ws.set (i + 1 + m) word)[q]? = ws[q]? := fun q hq => List.getElem?_set_ne (fun e => by subst e; exact hno hq)
  have keepD : ∀ q : Nat, st[q]? = some true → unK (ws.getD q 0) ≠ 15 → st[q]? = some true ∧ unK ((ws.set (i + 1 + m) word).getD q 0) ≠ 15 := fun q hq hk => by
    refine ⟨hq, ?_⟩
    rw [List.getD_eq_getElem?_getD, keep q hq, ← List.getD_eq_getElem?_getD]
    exact hk
  intro q x hq hx j hj
  rw [keep q hq] at hx
  by_cases e : q + 1 + j = i + 1 + m
  · have hqi : q = i := by
      obtain ⟨x0, c1, c2, c3, c4, c5⟩ := h.obj q hq
      rw [hx] at c1; injection c1 with c1; subst c1
      have hg := (un_packI c2).2.1
      have hgb := of_decide_eq_true hg
      rcases Nat.lt_trichotomy q i with c | c | c
      · exact absurd hs (c5 i c (by omega))
      · exact c
      · exact absurd hq (b5 q c (by omega))
    subst hqi
    rw [hw] at hx; injection hx with hx; subst hx
    obtain rfl : j = m := by omega
    rw [List.getD_eq_getElem?_getD, List.getElem?_set, if_pos rfl, if_pos (by omega)]
    exact leadsB_keep (hl hj) keepD
  · rw [List.getD_eq_getElem?_getD, List.getElem?_set_ne (by omega), ← List.getD_eq_getElem?_getD]
    exact leadsB_keep (hR q x hq hx j hj) keepD
theorem HT.place (h : HT n T ws st) {kd pt : Int} {k : Nat} (hg : goodB kd k pt = true) (hf : T + 1 + k ≤ n) : HT n (T + 1 + k) (zeroAt (ws.set T (packI kd k pt)) (T + 1) k) (st.set T true) := by
  obtain ⟨u1, u2, u3, u4, u5⟩ := packI_un hg
  have hwl := h.wl
  have hsl := h.sl
  have hT : (st.set T true)[T]? = some true := by rw [List.getElem?_set, if_pos rfl, if_pos (by omega)]
  refine ⟨by rw [zeroAt_len (by simp; omega)]; simp [hwl], by simp [hsl], h.nb, hf, fun x hx => ?_, .inr ?_, fun j hj => ?_⟩
  · rcases lay_mem hx with hx | rfl | rfl
    · exact h.w64 x hx
    · exact u1
    · exact in64_zero
  · rcases h.zero with e | e
    · rw [← e]; exact hT
    · rw [List.getElem?_set]
      split
      · rename_i e2; rw [if_pos (by omega)]
      · exact e
  · by_cases e : j = T
    · subst e
      refine ⟨_, lay_at (by omega), u2, by rw [u4]; omega, .inl (by rw [u4]; omega), fun q h1 h2 hq => ?_⟩
      rcases set_trueB hq with e | hq
      · omega
      · have := h.lt hq; omega
    · have hj' : st[j]? = some true := by
        rcases set_trueB hj with e' | hj'
        · exact absurd e' e
        · exact hj'
      have hlt := h.lt hj'
      obtain ⟨w', a1, a2, a3, a4, a5⟩ := h.obj j hj'
      refine ⟨w', ?_, a2, by omega, .inr ?_, fun q h1 h2 hq => ?_⟩
      · rw [lay_out (by omega) (.inl hlt)]; exact a1
      · rcases a4 with a4 | a4
        · rw [a4]; exact hT
        · rw [List.getElem?_set]
          split
          · rw [if_pos (by omega)]
          · exact a4
      · rcases set_trueB hq with e2 | hq
        · omega
        · exact a5 q h1 h2 hq
theorem RefsOk.place (h : HT n T ws st) (hR : RefsOk ws st) {kd pt : Int} {k : Nat} (hg : goodB kd k pt = true) (hf : T + 1 + k ≤ n) : RefsOk (zeroAt (ws.set T (packI kd k pt)) (T + 1) k) (st.set T true) := by
  obtain ⟨u1, u2, u3, u4, u5⟩ := packI_un hg
  have hgb := of_decide_eq_true hg
  have hwl := h.wl
  have hsl := h.sl
  have hout : ∀ q : Nat, q < T → (zeroAt (ws.set T (packI kd k pt)) (T + 1) k)[q]? = ws[q]? := fun q hq => lay_out (by omega) (.inl hq)
  have keepD : ∀ q : Nat, st[q]? = some true → unK (ws.getD q 0) ≠ 15 → (st.set T true)[q]? = some true ∧ unK ((zeroAt (ws.set T (packI kd k pt)) (T + 1) k).getD q 0) ≠ 15 := fun q hq hk => by
    have := h.lt hq
    refine ⟨by rw [List.getElem?_set_ne (by omega)]; exact hq, ?_⟩
    rw [List.getD_eq_getElem?_getD, hout q this, ← List.getD_eq_getElem?_getD]
    exact hk
  intro q x hq hx j hj
  by_cases e : q = T
  · subst e
    rw [lay_at (by omega)] at hx
    injection hx with hx
    subst hx
    rw [u5] at hj
    rw [List.getD_eq_getElem?_getD, zeroAt_in (by simp; omega) (by omega) (by omega)]
    exact leadsB_zero
  · have hq' : st[q]? = some true := by
      rcases set_trueB hq with e' | hq'
      · exact absurd e' e
      · exact hq'
    have hlt := h.lt hq'
    rw [hout q hlt] at hx
    obtain ⟨x0, c1, c2, c3, c4, c5⟩ := h.obj q hq'
    rw [hx] at c1; injection c1 with c1; subst c1
    have hgb2 := of_decide_eq_true (un_packI c2).2.1
    rw [List.getD_eq_getElem?_getD, hout _ (by omega), ← List.getD_eq_getElem?_getD]
    exact leadsB_keep (hR q x hq' hx j hj) keepD
theorem set_same {st : List Bool} {i : Nat} (hs : st[i]? = some true) : st.set i true = st := by
  apply List.ext_getElem?
  intro j
  rw [List.getElem?_set]
  by_cases e : i = j
  · subst e; rw [if_pos rfl, if_pos (List.getElem?_eq_some_iff.1 hs).1, hs]
  · rw [if_neg e]
/-- Where another start lies, of one that begins at i and ends at e. -/
theorem HT.apart (h : HT n T ws st) {i j : Nat} {w : Int} (hs : st[i]? = some true) (hw : ws[i]? = some w) (hj : st[j]? = some true) (e : j ≠ i) : j < i ∨ i + 1 + (unN w).toNat ≤ j := by
  obtain ⟨w0, b1, b2, b3, b4, b5⟩ := h.obj i hs
  rw [hw] at b1; injection b1 with b1; subst b1
  rcases Nat.lt_or_ge j i with c | c
  · exact .inl c
  · right
    rcases Nat.lt_or_ge j (i + 1 + (unN w).toNat) with d | d
    · exact absurd hj (b5 j (by omega) d)
    · exact d
/-- .. and ends. -/
theorem HT.ends (h : HT n T ws st) {i j : Nat} {x : Int} (hs : st[i]? = some true) (hj : st[j]? = some true) (hx : ws[j]? = some x) (e : j < i) : j + 1 + (unN x).toNat ≤ i := by
  obtain ⟨w0, b1, b2, b3, b4, b5⟩ := h.obj j hj
  rw [hx] at b1; injection b1 with b1; subst b1
  rcases Nat.lt_or_ge i (j + 1 + (unN x).toNat) with d | d
  · exact absurd hs (b5 i e d)
  · exact d
theorem HT.split0 (h : HT n T ws st) {i k : Nat} {kd pt w : Int} (hg : goodB kd k pt = true) (hs : st[i]? = some true) (hw : ws[i]? = some w) (hk : (unN w).toNat = k) :
    HT n T (zeroAt (ws.set i (packI kd k pt)) (i + 1) k) (st.set i true) := by
  obtain ⟨u1, u2, u3, u4, u5⟩ := packI_un hg
  have hwl := h.wl
  have htn := h.tn
  obtain ⟨w0, b1, b2, b3, b4, b5⟩ := h.obj i hs
  rw [hw] at b1; injection b1 with b1; subst b1
  rw [set_same hs]
  refine ⟨by rw [zeroAt_len (by simp; omega)]; simp [hwl], h.sl, h.nb, htn, fun x hx => ?_, h.zero, fun j hj => ?_⟩
  · rcases lay_mem hx with hx | rfl | rfl
    · exact h.w64 x hx
    · exact u1
    · exact in64_zero
  · by_cases e : j = i
    · subst e
      have e4 : j + 1 + (unN (packI kd k pt)).toNat = j + 1 + (unN w).toNat := by rw [u4]; omega
      exact ⟨_, lay_at (by omega), u2, by rw [e4]; omega, by rw [e4]; exact b4, by rw [e4]; exact b5⟩
    · obtain ⟨w', a1, a2, a3, a4⟩ := h.obj j hj
      refine ⟨w', ?_, a2, a3, a4⟩
      rw [lay_out (by omega) (by have := h.apart hs hw hj e; omega)]
      exact a1
theorem HT.split1 (h : HT n T ws st) {i k r : Nat} {kd pt w : Int} (hg : goodB kd k pt = true) (hr : r ≤ 4095) (hs : st[i]? = some true) (hw : ws[i]? = some w) (hk : (unN w).toNat = k + 1 + r) :
    HT n T (zeroAt ((zeroAt (ws.set i (packI kd k pt)) (i + 1) k).set (i + 1 + k) (packI 15 r 0)) (i + 1 + k + 1) r) ((st.set i true).set (i + 1 + k) true) := by
  obtain ⟨u1, u2, u3, u4, u5⟩ := packI_un hg
  have hg2 : goodB 15 r 0 = true := decide_eq_true (by omega)
  obtain ⟨v1, v2, v3, v4, v5⟩ := packI_un hg2
  have hwl := h.wl
  have hsl := h.sl
  have htn := h.tn
  obtain ⟨w0, b1, b2, b3, b4, b5⟩ := h.obj i hs
  rw [hw] at b1; injection b1 with b1; subst b1
  have hl1 : (zeroAt (ws.set i (packI kd k pt)) (i + 1) k).length = n := by rw [zeroAt_len (by simp; omega)]; simp [hwl]
  rw [set_same hs]
  have hnew : ∀ q : Nat, (st.set (i + 1 + k) true)[q]? = some true → q = i + 1 + k ∨ st[q]? = some true := fun q hq => set_trueB hq
  have hold : ∀ q : Nat, st[q]? = some true → (st.set (i + 1 + k) true)[q]? = some true := fun q hq => by
    rw [List.getElem?_set]
    split
    · rw [if_pos (by have := (List.getElem?_eq_some_iff.1 hq).1; omega)]
    · exact hq
  have hat : (st.set (i + 1 + k) true)[i + 1 + k]? = some true := by rw [List.getElem?_set, if_pos rfl, if_pos (by omega)]
  refine ⟨by rw [zeroAt_len (by simp [hl1]; omega)]; simp [hl1], by simp [hsl], h.nb, htn, fun x hx => ?_, ?_, fun j hj => ?_⟩
  · rcases lay_mem hx with hx | rfl | rfl
    · rcases lay_mem hx with hx | rfl | rfl
      · exact h.w64 x hx
      · exact u1
      · exact in64_zero
    · exact v1
    · exact in64_zero
  · rcases h.zero with e | e
    · exact .inl e
    · exact .inr (hold 0 e)
  · by_cases e1 : j = i + 1 + k
    · subst e1
      have e4 : i + 1 + k + 1 + (unN (packI 15 (r : Int) 0)).toNat = i + 1 + (unN w).toNat := by rw [v4]; omega
      refine ⟨_, lay_at (by omega), v2, by rw [e4]; omega, ?_, fun q h1 h2 hq => ?_⟩
      · rw [e4]
        rcases b4 with b4 | b4
        · exact .inl b4
        · exact .inr (hold _ b4)
      · rw [e4] at h2
        rcases hnew q hq with e | e
        · omega
        · exact b5 q (by omega) (by omega) e
    · have hj' : st[j]? = some true := by
        rcases hnew j hj with e | e
        · exact absurd e e1
        · exact e
      by_cases e2 : j = i
      · subst e2
        have e4 : j + 1 + (unN (packI kd k pt)).toNat = j + 1 + k := by rw [u4]; omega
        refine ⟨packI kd k pt, ?_, u2, by rw [e4]; omega, .inr (by rw [e4]; exact hat), fun q h1 h2 hq => ?_⟩
        · rw [lay_out (by omega) (.inl (by omega)), lay_at (by omega)]
        · rw [e4] at h2
          rcases hnew q hq with e | e
          · omega
          · exact b5 q (by omega) (by omega) e
      · have hout := h.apart hs hw hj' e2
        obtain ⟨w', a1, a2, a3, a4, a5⟩ := h.obj j hj'
        refine ⟨w', ?_, a2, a3, ?_, fun q h1 h2 hq => ?_⟩
        · rw [lay_out (by omega) (by omega), lay_out (by omega) (by omega)]
          exact a1
        · rcases a4 with a4 | a4
          · exact .inl a4
          · exact .inr (hold _ a4)
        · rcases hnew q hq with e | e
          · subst e
            rcases hout with c | c
            · exact a5 i c (by omega) hs
            · omega
          · exact a5 q h1 h2 e
theorem RefsOk.of {ws' : List Int} {st' : List Bool} (hR : RefsOk ws st) (keep : ∀ q : Nat, st[q]? = some true → unK (ws.getD q 0) ≠ 15 → st'[q]? = some true ∧ unK (ws'.getD q 0) ≠ 15)
    (each : ∀ (q : Nat) (x : Int), st'[q]? = some true → ws'[q]? = some x → (∀ j : Nat, (j : Int) < unP x → ws'.getD (q + 1 + j) 0 = 0) ∨ (st[q]? = some true ∧ ws[q]? = some x ∧ ∀ j : Nat, (j : Int) < unP x → ws'.getD (q + 1 + j) 0 = ws.getD (q + 1 + j) 0)) : RefsOk ws' st' := by
  intro q x hq hx j hj
  rcases each q x hq hx with e | ⟨e1, e2, e3⟩
  · rw [e j hj]; exact leadsB_zero
  · rw [e3 j hj]; exact leadsB_keep (hR q x e1 e2 j hj) keep
theorem HT.pts (h : HT n T ws st) {j : Nat} {x : Int} (hj : st[j]? = some true) (hx : ws[j]? = some x) : 0 ≤ unN x ∧ unP x ≤ unN x := by
  obtain ⟨x0, c1, c2, c3, c4, c5⟩ := h.obj j hj
  rw [hx] at c1; injection c1 with c1; subst c1
  have := of_decide_eq_true (un_packI c2).2.1
  omega
theorem RefsOk.split0 (h : HT n T ws st) (hR : RefsOk ws st) {i k : Nat} {kd pt w : Int} (hg : goodB kd k pt = true) (hs : st[i]? = some true) (hw : ws[i]? = some w) (hk : (unN w).toNat = k) (h15 : unK w = 15) :
    RefsOk (zeroAt (ws.set i (packI kd k pt)) (i + 1) k) (st.set i true) := by
  obtain ⟨u1, u2, u3, u4, u5⟩ := packI_un hg
  have hgb := of_decide_eq_true hg
  have hwl := h.wl
  have htn := h.tn
  obtain ⟨w0, b1, b2, b3, b4, b5⟩ := h.obj i hs
  rw [hw] at b1; injection b1 with b1; subst b1
  rw [set_same hs]
  refine hR.of (fun q hq hk2 => ⟨hq, ?_⟩) (fun q x hq hx => ?_)
  · by_cases e : q = i
    · subst e; rw [getD_of hw] at hk2; exact absurd h15 hk2
    · rw [List.getD_eq_getElem?_getD, lay_out (by omega) (by have := h.apart hs hw hq e; omega), ← List.getD_eq_getElem?_getD]; exact hk2
  · by_cases e : q = i
    · subst e
      rw [lay_at (by omega)] at hx
      injection hx with hx
      subst hx
      left
      intro j hj
      rw [u5] at hj
      rw [List.getD_eq_getElem?_getD, zeroAt_in (by simp; omega) (by omega) (by omega)]; rfl
    · have hap := h.apart hs hw hq e
      rw [lay_out (by omega) (by omega)] at hx
      refine .inr ⟨hq, hx, fun j hj => ?_⟩
      have hp := h.pts hq hx
      rw [List.getD_eq_getElem?_getD, lay_out (by omega) (by
        rcases hap with c | c
        · have := h.ends hs hq hx c; omega
        · omega), ← List.getD_eq_getElem?_getD]
theorem RefsOk.split1 (h : HT n T ws st) (hR : RefsOk ws st) {i k r : Nat} {kd pt w : Int} (hg : goodB kd k pt = true) (hr : r ≤ 4095) (hs : st[i]? = some true) (hw : ws[i]? = some w) (hk : (unN w).toNat = k + 1 + r) (h15 : unK w = 15) :
    RefsOk (zeroAt ((zeroAt (ws.set i (packI kd k pt)) (i + 1) k).set (i + 1 + k) (packI 15 r 0)) (i + 1 + k + 1) r) ((st.set i true).set (i + 1 + k) true) := by
  obtain ⟨u1, u2, u3, u4, u5⟩ := packI_un hg
  have hgb := of_decide_eq_true hg
  have hg2 : goodB 15 r 0 = true := decide_eq_true (by omega)
  obtain ⟨v1, v2, v3, v4, v5⟩ := packI_un hg2
  have hwl := h.wl
  have htn := h.tn
  have hsl := h.sl
  obtain ⟨w0, b1, b2, b3, b4, b5⟩ := h.obj i hs
  rw [hw] at b1; injection b1 with b1; subst b1
  have hl1 : (zeroAt (ws.set i (packI kd k pt)) (i + 1) k).length = n := by rw [zeroAt_len (by simp; omega)]; simp [hwl]
  rw [set_same hs]
  have hold : ∀ q : Nat, st[q]? = some true → (st.set (i + 1 + k) true)[q]? = some true := fun q hq => by
    rw [List.getElem?_set]
    split
    · rw [if_pos (by have := (List.getElem?_eq_some_iff.1 hq).1; omega)]
    · exact hq
  have hout : ∀ q : Nat, q < i ∨ i + 1 + (unN w).toNat ≤ q → (zeroAt ((zeroAt (ws.set i (packI kd k pt)) (i + 1) k).set (i + 1 + k) (packI 15 r 0)) (i + 1 + k + 1) r)[q]? = ws[q]? := fun q hq => by
    rw [lay_out (by omega) (by omega), lay_out (by omega) (by omega)]
  refine hR.of (fun q hq hk2 => ⟨hold q hq, ?_⟩) (fun q x hq hx => ?_)
  · by_cases e : q = i
    · subst e; rw [getD_of hw] at hk2; exact absurd h15 hk2
    · rw [List.getD_eq_getElem?_getD, hout q (h.apart hs hw hq e), ← List.getD_eq_getElem?_getD]; exact hk2
  · by_cases e1 : q = i + 1 + k
    · subst e1
      rw [lay_at (by omega)] at hx
      injection hx with hx
      subst hx
      left
      intro j hj
      rw [v5] at hj
      omega
    · by_cases e : q = i
      · subst e
        rw [lay_out (by omega) (.inl (by omega)), lay_at (by omega)] at hx
        injection hx with hx
        subst hx
        left
        intro j hj
        rw [u5] at hj
        rw [List.getD_eq_getElem?_getD, lay_out (by omega) (.inl (by omega)), zeroAt_in (by simp; omega) (by omega) (by omega)]; rfl
      · have hq' : st[q]? = some true := by
          rcases set_trueB hq with e' | e'
          · exact absurd e' e1
          · exact e'
        have hap := h.apart hs hw hq' e
        rw [hout q hap] at hx
        refine .inr ⟨hq', hx, fun j hj => ?_⟩
        have hp := h.pts hq' hx
        rw [List.getD_eq_getElem?_getD, hout _ (by
          rcases hap with c | c
          · have := h.ends hs hq' hx c; omega
          · omega), ← List.getD_eq_getElem?_getD]
end keeps
end Go.Proofs.Ytchanmljjfcplaa
