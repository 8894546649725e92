/-
  Our own: heaps and the document's: Place, whatever it answers.
-/
import Derived.Test.YtchanmljjfcplaaGf
import Derived.Test.YtchanmljjfcplaaGg
set_option linter.unusedVariables false
set_option linter.unusedSimpArgs false
namespace Go.Proofs.Ytchanmljjfcplaa
open Go.Sep
/-- What Place answers. -/
def placeC (n T : Nat) (kd ln pt : Int) : Int := if goodB kd ln pt = false then 1 else if (n : Int) - T ≤ ln then 6 else 0
def placeA (n T : Nat) (kd ln pt : Int) : Int := if placeC n T kd ln pt = 0 then T else 0
def placeT (n T : Nat) (kd ln pt : Int) : Nat := if placeC n T kd ln pt = 0 then T + 1 + ln.toNat else T
def placeW (n T : Nat) (ws : List Int) (kd ln pt : Int) : List Int := if placeC n T kd ln pt = 0 then zeroAt (ws.set T (packI kd ln pt)) (T + 1) ln.toNat else ws
def placeS (n T : Nat) (st : List Bool) (kd ln pt : Int) : List Bool := if placeC n T kd ln pt = 0 then st.set T true else st
theorem place_zero {n T : Nat} {kd ln pt : Int} (h : placeC n T kd ln pt = 0) : ∃ k : Nat, ln = k ∧ goodB kd k pt = true ∧ T + 1 + k ≤ n := by
  unfold placeC at h
  cases hg : goodB kd ln pt with
  | false => rw [hg] at h; cases h
  | true =>
    have hgb := of_decide_eq_true hg
    obtain ⟨k, rfl⟩ := Int.eq_ofNat_of_zero_le hgb.2.2.1
    rw [hg] at h
    by_cases hf : (n : Int) - T ≤ k
    · rw [if_neg (by decide), if_pos hf] at h; cases h
    · exact ⟨k, rfl, hg, by omega⟩
theorem HT.placeB {n T : Nat} {ws : List Int} {st : List Bool} (h : HT n T ws st) (kd ln pt : Int) : HT n (placeT n T kd ln pt) (placeW n T ws kd ln pt) (placeS n T st kd ln pt) := by
  unfold placeT placeW placeS
  by_cases hc : placeC n T kd ln pt = 0
  · obtain ⟨k, rfl, hg, hf⟩ := place_zero hc
    rw [if_pos hc, if_pos hc, if_pos hc, Int.toNat_natCast]
    exact h.place hg hf
  · rw [if_neg hc, if_neg hc, if_neg hc]
    exact h
section ops
variable {p bw bs n T : Nat} {ws : List Int} {st : List Bool} {a : Option Addr} {cap : Nat} {os : List RO}
theorem Place_specT (kd ln pt : Int) (h : HT n T ws st) : Does Try.prog 63 [ptr p 0, headV kd ln pt] (heapL p bw bs n ws T st)
    (fun v l => v = .tuple #[.int .i64 (placeA n T kd ln pt), .int .i64 (placeC n T kd ln pt)] ∧ l = heapL p bw bs n (placeW n T ws kd ln pt) (placeT n T kd ln pt) (placeS n T st kd ln pt)) := by
  have htn := h.tn
  unfold placeA placeT placeW placeS
  cases hg : goodB kd ln pt with
  | false =>
    have hc : placeC n T kd ln pt = 1 := by unfold placeC; rw [if_pos hg]
    rw [hc]
    exact Place_bad kd ln pt hg
  | true =>
    have hgb := of_decide_eq_true hg
    obtain ⟨k, rfl⟩ := Int.eq_ofNat_of_zero_le hgb.2.2.1
    by_cases hf : (n : Int) - T ≤ k
    · have hc : placeC n T kd k pt = 6 := by unfold placeC; rw [if_neg (by rw [hg]; decide), if_pos hf]
      rw [hc]
      exact Place_full kd k pt T htn h.nb hg (by omega)
    · have hc : placeC n T kd k pt = 0 := by unfold placeC; rw [if_neg (by rw [hg]; decide), if_neg hf]
      rw [hc, Int.toNat_natCast]
      exact Place_ok kd pt k T h.wl h.sl h.nb hg (by omega)
theorem refPlace_spec (kd ln pt : Int) (h : HT n T ws st) (hc : Ch ws 0 os T) : Does Try.prog 49 [refV n a os.length cap, headV kd ln pt] (refL a cap os)
    (fun v l => ∃ a' cap' os', Ch (placeW n T ws kd ln pt) 0 os' (placeT n T kd ln pt) ∧ v = .tuple #[refV n a' os'.length cap', .int .i64 (placeA n T kd ln pt), .int .i64 (placeC n T kd ln pt)] ∧ l = refL a' cap' os') := by
  have htn := h.tn
  have hwl := h.wl
  unfold placeA placeT placeW
  cases hg : goodB kd ln pt with
  | false =>
    have hC : placeC n T kd ln pt = 1 := by unfold placeC; rw [if_pos hg]
    rw [hC]
    exact (refPlace_bad kd ln pt hg).mono fun v l ⟨e1, e2⟩ => ⟨a, cap, os, hc, e1, e2⟩
  | true =>
    have hgb := of_decide_eq_true hg
    obtain ⟨k, rfl⟩ := Int.eq_ofNat_of_zero_le hgb.2.2.1
    by_cases hf : (n : Int) - T ≤ k
    · have hC : placeC n T kd k pt = 6 := by unfold placeC; rw [if_neg (by rw [hg]; decide), if_pos hf]
      rw [hC]
      exact (refPlace_full kd pt k hc htn h.nb hg (by omega)).mono fun v l ⟨e1, e2⟩ => ⟨a, cap, os, hc, e1, e2⟩
    · have hC : placeC n T kd k pt = 0 := by unfold placeC; rw [if_neg (by rw [hg]; decide), if_neg hf]
      rw [hC, Int.toNat_natCast]
      refine (refPlace_ok kd pt k hc htn h.nb hg (by omega)).mono fun v l ⟨a', cap', wa, wc, e1, e2⟩ => ⟨a', cap', _, ?_, e1, e2⟩
      have hb : T + 1 + k ≤ ws.length := by omega
      have h1 := (hc.keep (ws' := zeroAt (ws.set T (packI kd k pt)) (T + 1) k) fun q _ b => lay_out hb (.inl b)).snoc (o := ⟨T, kd, pt, List.replicate k 0, wa, wc⟩) rfl (by dsimp only; rw [List.length_replicate]; exact hg) (by dsimp only; rw [List.length_replicate]; exact lay_at hb) (fun q hq => by
        dsimp only at hq ⊢
        rw [List.length_replicate] at hq
        exact (zeroAt_in (by simp; omega) (by omega) (by omega)).trans (zrep hq).symm)
      dsimp only at h1
      rw [List.length_replicate] at h1
      exact h1
end ops
end Go.Proofs.Ytchanmljjfcplaa
