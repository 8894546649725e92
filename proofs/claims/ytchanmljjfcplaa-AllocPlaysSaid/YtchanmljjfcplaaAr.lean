/-
  Our own: the allocator's buffers are fillers, each thread's another one; besomlaw05.AllocPlays's closure; pointers compared.
-/
import Derived.Test.YtchanmljjfcplaaJq
import Derived.Test.YtchanmljjfcplaaLaAw
set_option linter.unusedVariables false
set_option linter.unusedSimpArgs false
namespace Go.Proofs.Ytchanmljjfcplaa
open Go.Sep
def Filler (s : AS) (b : Int) : Prop := ∃ (q : Nat) (w : Int), b = q ∧ s.st[q]? = some true ∧ s.ws[q]? = some w ∧ unK w = 15
structure BI (s : AS) : Prop where
  fil : ∀ (j : Nat) (b : Int), s.bu[j]? = some b → b = -1 ∨ Filler s b
  dis : ∀ (i j : Nat) (b : Int), s.bu[i]? = some b → s.bu[j]? = some b → i ≠ j → b = -1
theorem BI.set {s : AS} (h : BI s) {ws' : List Int} {st' : List Bool} {T' : Nat} {i : Nat} {x : Int} (hx : x = -1 ∨ Filler ⟨T', ws', st', s.bu.set i x⟩ x)
    (ho : ∀ (j : Nat) (b : Int), j ≠ i → s.bu[j]? = some b → Filler s b → Filler ⟨T', ws', st', s.bu.set i x⟩ b ∧ b ≠ x) : BI ⟨T', ws', st', s.bu.set i x⟩ := by
  have hget : ∀ (j : Nat) (b : Int), (s.bu.set i x)[j]? = some b → (j = i ∧ b = x) ∨ (j ≠ i ∧ s.bu[j]? = some b) := fun j b hb => by
    rw [List.getElem?_set] at hb
    split at hb
    · rename_i e
      split at hb
      · injection hb with hb; exact .inl ⟨e.symm, hb.symm⟩
      · cases hb
    · rename_i e
      exact .inr ⟨fun e2 => e e2.symm, hb⟩
  refine ⟨fun j b hb => ?_, fun j k b hj hk hne => ?_⟩
  · rcases hget j b hb with ⟨_, rfl⟩ | ⟨e, hb⟩
    · exact hx
    · rcases h.fil j b hb with e2 | e2
      · exact .inl e2
      · exact .inr (ho j b e hb e2).1
  · rcases hget j b hj with ⟨e1, e2⟩ | ⟨e1, e2⟩
    · rcases hget k b hk with ⟨f1, f2⟩ | ⟨f1, f2⟩
      · exact absurd (e1.trans f1.symm) hne
      · rcases h.fil k b f2 with e3 | e3
        · exact e3
        · exact absurd e2 (ho k b f1 f2 e3).2
    · rcases hget k b hk with ⟨f1, f2⟩ | ⟨f1, f2⟩
      · rcases h.fil j b e2 with e3 | e3
        · exact e3
        · exact absurd f2 (ho j b e1 e2 e3).2
      · exact h.dis j k b e2 f2 hne
theorem BI.retire {s : AS} (h : BI s) (i : Nat) : BI ⟨s.T, s.ws, s.st, s.bu.set i (-1)⟩ :=
  h.set (.inl rfl) fun j b _ _ hF => ⟨hF, fun e => by obtain ⟨q, w, e2, _⟩ := hF; omega⟩
theorem place_all {n T : Nat} {ws : List Int} {st : List Bool} (h : HT n T ws st) (kd ln pt : Int) (q : Nat) (hq : st[q]? = some true) : (placeS n T st kd ln pt)[q]? = some true ∧ (placeW n T ws kd ln pt)[q]? = ws[q]? := by
  have hwl := h.wl
  have hlt := h.lt hq
  unfold placeW placeS
  by_cases hc : placeC n T kd ln pt = 0
  · obtain ⟨m, rfl, hg, hf⟩ := place_zero hc
    rw [if_pos hc, if_pos hc, Int.toNat_natCast]
    exact ⟨by rw [List.getElem?_set_ne (by omega)]; exact hq, lay_out (by omega) (.inl hlt)⟩
  · rw [if_neg hc, if_neg hc]
    exact ⟨hq, rfl⟩
theorem BI.place {n : Nat} {s : AS} (h : BI s) (hH : HT n s.T s.ws s.st) (kd ln pt : Int) : BI (placeR n s kd ln pt).s :=
  ⟨fun j b hb => (h.fil j b hb).imp id fun ⟨q, w, e, h1, h2, h3⟩ => ⟨q, w, e, (place_all hH kd ln pt q h1).1, (place_all hH kd ln pt q h1).2.trans h2, h3⟩, h.dis⟩
/-- A buffer that is placed. -/
theorem BI.buffer {n : Nat} {size : Int} {s : AS} (h : BI s) (hH : HT n s.T s.ws s.st) (i : Nat) (hc : placeC n s.T 15 (size - 1) 0 = 0) :
    BI ⟨placeT n s.T 15 (size - 1) 0, placeW n s.T s.ws 15 (size - 1) 0, placeS n s.T s.st 15 (size - 1) 0, s.bu.set i s.T⟩ ∧ Filler ⟨placeT n s.T 15 (size - 1) 0, placeW n s.T s.ws 15 (size - 1) 0, placeS n s.T s.st 15 (size - 1) 0, s.bu.set i s.T⟩ s.T := by
  have hwl := hH.wl
  have hsl := hH.sl
  have hF : Filler ⟨placeT n s.T 15 (size - 1) 0, placeW n s.T s.ws 15 (size - 1) 0, placeS n s.T s.st 15 (size - 1) 0, s.bu.set i s.T⟩ s.T := by
    obtain ⟨m, hm, hg, hf⟩ := place_zero hc
    refine ⟨s.T, packI 15 m 0, rfl, ?_, ?_, (packI_un hg).2.2.1⟩
    · show (placeS n s.T s.st 15 (size - 1) 0)[s.T]? = _
      unfold placeS
      rw [if_pos hc, List.getElem?_set, if_pos rfl, if_pos (by omega)]
    · show (placeW n s.T s.ws 15 (size - 1) 0)[s.T]? = _
      unfold placeW
      rw [if_pos hc, hm, Int.toNat_natCast]
      exact lay_at (by omega)
  refine ⟨h.set (.inr hF) fun j b _ _ ⟨q, w, e, h1, h2, h3⟩ => ⟨⟨q, w, e, (place_all hH 15 (size - 1) 0 q h1).1, (place_all hH 15 (size - 1) 0 q h1).2.trans h2, h3⟩, ?_⟩, hF⟩
  have := hH.lt h1
  omega
/-- What a split leaves, and makes. -/
theorem split_shape {n T i m : Nat} {ws : List Int} {st : List Bool} {kd pt w : Int} (h : HT n T ws st) (hc : splitC ws st i kd m pt = 0) (hs : st[i]? = some true) (hw : ws[i]? = some w) (hle : (m : Int) ≤ unN w) (hN : unN w ≤ 4095) (hT : i + 1 + (unN w).toNat ≤ T) :
    (∀ q : Nat, (q < i ∨ i + 1 + (unN w).toNat ≤ q) → (splitW ws st i kd m pt)[q]? = ws[q]?) ∧ (∀ q : Nat, st[q]? = some true → (splitS ws st i kd m pt)[q]? = some true) ∧
    (unN w ≠ m → (splitS ws st i kd m pt)[i + 1 + m]? = some true ∧ ∃ r : Nat, (splitW ws st i kd m pt)[i + 1 + m]? = some (packI 15 r 0) ∧ r ≤ 4095) := by
  have hwl := h.wl
  have hsl := h.sl
  have htn := h.tn
  have hset : ∀ (st : List Bool) (x q : Nat), st[q]? = some true → (st.set x true)[q]? = some true := fun st x q hq => by
    rw [List.getElem?_set]
    split
    · rename_i e; subst e; rw [if_pos (List.getElem?_eq_some_iff.1 hq).1]
    · exact hq
  unfold splitW splitS
  rw [if_pos hc, if_pos hc, Int.toNat_natCast, getD_of hw, Int.toNat_natCast]
  by_cases e : unN w = m
  · rw [if_pos e, if_pos e]
    exact ⟨fun q hq => lay_out (by omega) (by omega), fun q hq => hset _ _ _ hq, fun e2 => absurd e e2⟩
  · rw [if_neg e, if_neg e]
    obtain ⟨r, hr⟩ : ∃ r : Nat, (unN w).toNat = m + 1 + r := ⟨(unN w).toNat - m - 1, by omega⟩
    rw [show unN w - (m : Int) - 1 = (r : Int) by omega, Int.toNat_natCast]
    have hl1 : (zeroAt (ws.set i (packI kd m pt)) (i + 1) m).length = ws.length := by rw [zeroAt_len (by simp; omega)]; simp
    have hb2 : i + 1 + m + 1 + r ≤ (zeroAt (ws.set i (packI kd m pt)) (i + 1) m).length := by omega
    exact ⟨fun q hq => (lay_out hb2 (by omega)).trans (lay_out (by omega) (by omega)), fun q hq => hset _ _ _ (hset _ _ _ hq), fun _ => ⟨by rw [List.getElem?_set, if_pos rfl, if_pos (by simp; omega)], r, lay_at hb2, by omega⟩⟩
theorem BI.split {n : Nat} {s : AS} (h : BI s) (hH : HT n s.T s.ws s.st) (i : Nat) (b kd ln pt : Int) (hb : s.bu[i]? = some b) (hF : Filler s b) (hg : goodB kd ln pt = true) (hl : 1 + ln ≤ leftN s.ws s.st b) :
    splitC s.ws s.st b kd ln pt = 0 ∧ BI (splitA s i kd ln pt).s := by
  obtain ⟨T, ws, st, bu⟩ := s
  obtain ⟨q, w, rfl, h1, h2, h3⟩ := hF
  dsimp only at h1 h2 hH hl hb
  have hgb := of_decide_eq_true hg
  obtain ⟨m, rfl⟩ := Int.eq_ofNat_of_zero_le hgb.2.2.1
  have hob : isObj st q := ⟨by omega, by rw [Int.toNat_natCast]; exact h1⟩
  obtain ⟨i0, w0, e1, hs0, hw0, hgd, hlt0, hn0, hn1, hT0, _⟩ := hH.is hob
  have e1' : q = i0 := by omega
  subst e1'
  rw [h2] at hw0; injection hw0 with hw0; subst hw0
  unfold leftN at hl
  rw [if_pos hob, Int.toNat_natCast, getD_of h2] at hl
  have hC : splitC ws st q kd m pt = 0 := by
    unfold splitC
    rw [if_neg (not_not_intro hob), Int.toNat_natCast, getD_of h2, if_neg (not_not_intro h3), if_neg (by rw [hg]; decide), if_neg (by omega)]
  refine ⟨hC, ?_⟩
  rw [splitA_of hb]
  obtain ⟨s1, s2, s3⟩ := split_shape hH hC h1 h2 (by omega) hn1 hT0
  have hR : splitR ws st q kd m pt ↔ unN w ≠ m := by
    unfold splitR
    rw [Int.toNat_natCast, getD_of h2]
    exact ⟨fun e => e.2, fun e => ⟨hC, e⟩⟩
  refine h.set ?_ ?_
  · unfold restB
    by_cases e : unN w = m
    · rw [if_neg (fun e2 => hR.1 e2 e)]
      exact .inl rfl
    · rw [if_pos (hR.2 e), if_neg (by omega)]
      obtain ⟨a1, r, a2, a3⟩ := s3 e
      have hg2 : goodB 15 r 0 = true := decide_eq_true (by omega)
      exact .inr ⟨q + 1 + m, _, by omega, a1, a2, (packI_un hg2).2.2.1⟩
  · rintro j b' hji hbj ⟨q', w', rfl, f1, f2, f3⟩
    dsimp only at hbj f1 f2
    have hne : q' ≠ q := fun e => by
      subst e
      have := h.dis j i _ hbj hb hji
      omega
    have hfar := hH.apart h1 h2 f1 hne
    refine ⟨⟨q', w', rfl, s2 q' f1, (s1 q' hfar).trans f2, f3⟩, ?_⟩
    unfold restB
    by_cases e : unN w = m
    · rw [if_neg (fun e2 => hR.1 e2 e)]
      rw [if_pos rfl]
      omega
    · rw [if_pos (hR.2 e), if_neg (by omega)]
      clear s3
      omega
/-- What Alloc does with buffers; where it takes from one, there is one. -/
theorem BI.alloc {n : Nat} {size : Int} {s : AS} (h : BI s) (hH : HT n s.T s.ws s.st) (i kd ln pt : Int) (h8 : 8 ≤ size) : BI (allocR n size s i kd ln pt).s := by
  unfold allocR
  split
  · exact h
  rename_i hno
  have hr : 0 ≤ i ∧ i < s.bu.length := Decidable.of_not_not fun e => hno (.inl e)
  have hg : goodB kd ln pt = true := by
    cases hg : goodB kd ln pt with
    | true => rfl
    | false => exact absurd (.inr (.inl hg)) hno
  have hgb := of_decide_eq_true hg
  have hj : i.toNat < s.bu.length := by omega
  split
  · exact h.place hH kd ln pt
  rename_i hsz
  split
  · split
    · rename_i hc
      obtain ⟨a1, a2⟩ := h.buffer hH i.toNat hc
      have hbT : (s.bu.set i.toNat (s.T : Int))[i.toNat]? = some (s.T : Int) := by rw [List.getElem?_set, if_pos rfl, if_pos hj]
      refine (a1.split (hH.placeB 15 (size - 1) 0) i.toNat s.T kd ln pt hbT a2 hg ?_).2
      show 1 + ln ≤ leftN (placeW n s.T s.ws 15 (size - 1) 0) (placeS n s.T s.st 15 (size - 1) 0) s.T
      obtain ⟨m, hm, hg2, hf⟩ := place_zero hc
      have hwl := hH.wl
      have hsl := hH.sl
      unfold leftN placeW placeS
      rw [if_pos hc, if_pos hc, if_pos ⟨by omega, by rw [Int.toNat_natCast, List.getElem?_set, if_pos rfl, if_pos (by omega)]⟩, hm, Int.toNat_natCast, Int.toNat_natCast, getD_of (lay_at (by omega)), (packI_un hg2).2.2.2.1]
      omega
    · exact BI.place (s := ⟨s.T, s.ws, s.st, s.bu.set i.toNat (-1)⟩) (h.retire i.toNat) hH kd ln pt
  · rename_i hlf
    obtain ⟨b, hb⟩ : ∃ b, s.bu[i.toNat]? = some b := ⟨s.bu[i.toNat], List.getElem?_eq_getElem _⟩
    rw [getD_of hb] at hlf
    rcases h.fil i.toNat b hb with rfl | hF
    · rw [leftN_none] at hlf; omega
    · exact (h.split hH i.toNat b kd ln pt hb hF hg (by omega)).2
end Go.Proofs.Ytchanmljjfcplaa
namespace Go.Sep
theorem OV_neqsame {C : Ctx} {g : Regs} {t t' e s1 s2 sz : Nat} {z : List Value} {x y : Operand} {b o : Nat} (ht : look C.ti t = some ⟨.ptr e, s1, s2, z⟩) (hsz : sizeAt C.ti e = some sz) (hz : sz ≠ 0) (hx : ev g x = some (ptr b o)) (hy : ev g y = some (ptr b o)) : OpV C g (.binOp .neq t x y t') (.bool false) := by
  refine ⟨(by intro c h; cases h), fun d ty pos af gd a w hf => ?_⟩
  have he : (Op.equal t (ptr b o) (ptr b o)).run C.P w = .ok true w := by
    have hu := run_underlying (und_ptr (C.ok.look ht) rfl) w
    unfold Op.equal
    show (Op.equalIn (9999 + 1) t (ptr b o) (ptr b o)).run C.P w = _
    rw [Op.equalIn, Sem.run_bind, hu]
    have hz1 : (sizeOf e).run C.P w = .ok sz w := sizeAt_run hsz w
    simp [Result.andThen, Pure.pure, Sem.run_bind, ptr, hz1, hz, sameAddr]
    try rfl
  have hb : (do eqGuard .neq t x y (ptr b o) (ptr b o); binOp .neq t (ptr b o) (ptr b o) : Sem Value).run C.P w = .ok (.bool false) w := by
    have : (do eqGuard .neq t x y (ptr b o) (ptr b o); binOp .neq t (ptr b o) (ptr b o) : Sem Value) = (do Pure.pure (.bool (!(← Op.equal t (ptr b o) (ptr b o)))) : Sem Value) := rfl
    rw [this, Sem.run_bind, he]; rfl
  simp only [execOp, hf.ev hx, hf.ev hy]
  rw [Sem.run_bind, hb]
  rfl
end Go.Sep
namespace Go.Proofs.Ytchanmljjfcplaa
open Go.Sep
section ops
variable {a : Option Addr} {c n T b12 b14 bat : Nat} {os : List RO} {ws bu : List Int} {st : List Bool}
abbrev leftL (b12 b14 bat n kk : Nat) (a : Option Addr) (c : Nat) (os : List RO) (bu : List Int) : List HP :=
  [blk b12 [.int .i64 n, .slice a os.length c] 33, blk b14 [sl bat kk] 37, blk bat (intsV bu) 3, objsZ a c os, RW os]
set_option maxHeartbeats 4000000 in
theorem left5_spec {kk : Nat} (i : Nat) (b : Int) (h : HT n T ws st) (hc : Ch ws 0 os T) (hb : bu[i]? = some b) (hkk : bu.length = kk) : Does Try.prog 46 [.int .i64 i, ptr b12 0, ptr b14 0] (leftL b12 b14 bat n kk a c os bu) (fun v l => v = .int .i64 (leftN ws st b) ∧ l = leftL b12 b14 bat n kk a c os bu) := by
  have hil := (List.getElem?_eq_some_iff.1 hb).1
  have hlen := hc.len
  have htn := h.tn
  have hnb := h.nb
  refine Does.of tiok Try.func46 (by kernel_rfl) rfl Try.ntmps46 rfl ?_
  intro W fr
  repeat' (first | (refine IsO ?_; first | refine JO_nil ?_ | (refine IsG ?_; first | refine G1 rfl rfl ?_ | refine G2 rfl ?_) | (refine IsMove ?_; first | refine M1 rfl rfl rfl ?_ | refine M2 rfl rfl rfl ?_ | refine M3 rfl rfl rfl ?_ | refine M4 rfl rfl rfl ?_ | refine M5 rfl rfl rfl (fun _ => ?_) (fun _ => ?_) | refine M6 rfl rfl rfl (fun _ => ?_) (fun _ => ?_)) | (refine IsBin ?_; first | refine B1 rfl rfl rfl rfl ?_ | refine B2 rfl rfl rfl rfl ?_ | refine B3 rfl rfl rfl rfl ?_ | refine B4 rfl rfl rfl rfl ?_ | refine B5 rfl rfl rfl rfl ?_ | refine B6 rfl rfl rfl rfl ?_ | refine B7 rfl rfl rfl rfl rfl ?_ | refine B8 rfl rfl rfl rfl rfl ?_ | refine B9 rfl rfl rfl rfl rfl rfl rfl ?_ | refine BA rfl rfl rfl rfl rfl rfl rfl ?_) | (refine IsConv ?_; refine C1 rfl rfl rfl rfl rfl ?_) | (refine IsLoad ?_; first | refine L1 rfl rfl rfl rfl ?_ | refine L2 rfl rfl rfl rfl rfl ?_) | (refine IsStore ?_; refine S1 rfl rfl rfl rfl rfl rfl rfl (fun _ => ?_)) | (refine IsBox ?_; refine N1 rfl rfl rfl rfl (fun _ => ?_)) | (refine IsAlloc ?_; refine N2 rfl rfl rfl rfl (fun _ => ?_)) | (refine IsBuild ?_; refine U1 rfl rfl rfl rfl rfl rfl ?_) | refine V1 rfl rfl rfl ?_) | (refine IsAt ?_; first | (with_reducible first | refine T1 ?_ | refine T2 ?_ | refine T3 ?_ | refine T4 ?_ | refine T5 ?_ | refine T6 ?_ | refine T7 ?_ | refine T8 ?_ | refine T9 ?_ | refine TA ?_ | refine TB ?_ | refine TC ?_) | ((with_reducible show At _ (PBlock _ _ (Exit.exit _)) _ _); first | refine At_block_hit ?_ | refine At_block_miss rfl ?_)) | (refine IsJ ?_; first | refine J_seq ?_ | refine J_region ?_ | refine J_block ?_ | refine J_skip ?_ | refine J_ret ?_ | refine J_exit ?_ | (refine IsCond ?_; first | refine J_cond_t rfl ?_ | refine J_cond_f rfl ?_ | refine K1 rfl ?_ | refine K2 rfl ?_ | refine K3 rfl ?_ | refine K4 rfl ?_ | refine J_cb rfl (fun _ => ?_) (fun _ => ?_) | refine J_nb rfl (fun _ => ?_) (fun _ => ?_))))
  refine J_draw [1, 1, 0, 0, 1, 2, 0] (List.range 7) (by kernel_rfl) (by kernel_rfl) ?_
  repeat' (refine IsX ?_; first | (refine JX_nil ?_; refine At_np ?_) | (refine JX_op rfl ?_; refine XsO ?_; first | (refine XsG ?_; refine XG1 rfl rfl rfl ?_) | (refine XsMove ?_; first | refine XM1 rfl rfl rfl rfl ?_ | refine XM2 rfl rfl rfl rfl ?_ | refine XM3 rfl rfl rfl rfl ?_ | refine XM4 rfl rfl rfl rfl ?_ | refine XM5 rfl rfl rfl rfl (fun _ => ?_) (fun _ => ?_) | refine XM6 rfl rfl rfl rfl (fun _ => ?_) (fun _ => ?_)) | (refine XsBin ?_; first | refine XB1 rfl rfl rfl rfl rfl ?_ | refine XB2 rfl rfl rfl rfl rfl ?_ | refine XB3 rfl rfl rfl rfl rfl ?_ | refine XB4 rfl rfl rfl rfl rfl ?_ | refine XB5 rfl rfl rfl rfl rfl ?_ | refine XB6 rfl rfl rfl rfl rfl ?_ | refine XB7 rfl rfl rfl rfl rfl rfl ?_ | refine XB8 rfl rfl rfl rfl rfl rfl ?_ | refine XB9 rfl rfl rfl rfl rfl rfl rfl rfl ?_ | refine XBA rfl rfl rfl rfl rfl rfl rfl rfl ?_) | (refine XsConv ?_; refine XC1 rfl rfl rfl rfl rfl rfl ?_) | (refine XsLoad ?_; first | refine XL1k rfl rfl rfl rfl rfl ?_ | refine XL2k rfl rfl rfl rfl rfl rfl ?_ | refine XL1 rfl rfl rfl rfl rfl ?_ | refine XL2 rfl rfl rfl rfl rfl rfl ?_) | (refine XsStore ?_; refine XS1 rfl rfl rfl rfl rfl rfl rfl rfl (fun _ => ?_)) | (refine XsBox ?_; refine XN1 rfl rfl rfl rfl rfl (fun _ => ?_)) | (refine XsAlloc ?_; refine XN2 rfl rfl rfl rfl rfl (fun _ => ?_)) | (refine XsBuild ?_; refine XU1 rfl rfl rfl rfl rfl rfl rfl ?_) | refine XV1 rfl rfl rfl rfl ?_))
  refine JX_val rfl rfl (OV_idx (off := i) rfl rfl rfl rfl (by omega) (by omega) (by simp)) rfl rfl ?_
  refine JX_q rfl rfl (OQ_load (v := .int .i64 b) rfl rfl (by repeat (first | exact .head _ | refine .tail _ ?_)) (by simp [intsV, hb])) rfl rfl ?_
  refine JX_l rfl rfl (OL_call [3, 3] rfl rfl rfl (Find_spec n b (by omega)) rfl) rfl rfl ?_
  rintro _ _ ⟨_, ⟨r, hr, rfl, rfl⟩, rfl⟩
  repeat' (refine IsX ?_; first | (refine JX_nil ?_; refine At_np ?_) | (refine JX_op rfl ?_; refine XsO ?_; first | (refine XsG ?_; refine XG1 rfl rfl rfl ?_) | (refine XsMove ?_; first | refine XM1 rfl rfl rfl rfl ?_ | refine XM2 rfl rfl rfl rfl ?_ | refine XM3 rfl rfl rfl rfl ?_ | refine XM4 rfl rfl rfl rfl ?_ | refine XM5 rfl rfl rfl rfl (fun _ => ?_) (fun _ => ?_) | refine XM6 rfl rfl rfl rfl (fun _ => ?_) (fun _ => ?_)) | (refine XsBin ?_; first | refine XB1 rfl rfl rfl rfl rfl ?_ | refine XB2 rfl rfl rfl rfl rfl ?_ | refine XB3 rfl rfl rfl rfl rfl ?_ | refine XB4 rfl rfl rfl rfl rfl ?_ | refine XB5 rfl rfl rfl rfl rfl ?_ | refine XB6 rfl rfl rfl rfl rfl ?_ | refine XB7 rfl rfl rfl rfl rfl rfl ?_ | refine XB8 rfl rfl rfl rfl rfl rfl ?_ | refine XB9 rfl rfl rfl rfl rfl rfl rfl rfl ?_ | refine XBA rfl rfl rfl rfl rfl rfl rfl rfl ?_) | (refine XsConv ?_; refine XC1 rfl rfl rfl rfl rfl rfl ?_) | (refine XsLoad ?_; first | refine XL1k rfl rfl rfl rfl rfl ?_ | refine XL2k rfl rfl rfl rfl rfl rfl ?_ | refine XL1 rfl rfl rfl rfl rfl ?_ | refine XL2 rfl rfl rfl rfl rfl rfl ?_) | (refine XsStore ?_; refine XS1 rfl rfl rfl rfl rfl rfl rfl rfl (fun _ => ?_)) | (refine XsBox ?_; refine XN1 rfl rfl rfl rfl rfl (fun _ => ?_)) | (refine XsAlloc ?_; refine XN2 rfl rfl rfl rfl rfl (fun _ => ?_)) | (refine XsBuild ?_; refine XU1 rfl rfl rfl rfl rfl rfl rfl ?_) | refine XV1 rfl rfl rfl rfl ?_))
  rcases hr with ⟨j, o', rfl, hj, hji⟩ | ⟨rfl, hno⟩
  case inr =>
    have hno' := findR_none h hc hno
    have e : leftN ws st b = 0 := by unfold leftN; rw [if_neg hno']
    rw [e]
    repeat' (first | (refine IsO ?_; first | refine JO_nil ?_ | (refine IsG ?_; first | refine G1 rfl rfl ?_ | refine G2 rfl ?_) | (refine IsMove ?_; first | refine M1 rfl rfl rfl ?_ | refine M2 rfl rfl rfl ?_ | refine M3 rfl rfl rfl ?_ | refine M4 rfl rfl rfl ?_ | refine M5 rfl rfl rfl (fun _ => ?_) (fun _ => ?_) | refine M6 rfl rfl rfl (fun _ => ?_) (fun _ => ?_)) | (refine IsBin ?_; first | refine B1 rfl rfl rfl rfl ?_ | refine B2 rfl rfl rfl rfl ?_ | refine B3 rfl rfl rfl rfl ?_ | refine B4 rfl rfl rfl rfl ?_ | refine B5 rfl rfl rfl rfl ?_ | refine B6 rfl rfl rfl rfl ?_ | refine B7 rfl rfl rfl rfl rfl ?_ | refine B8 rfl rfl rfl rfl rfl ?_ | refine B9 rfl rfl rfl rfl rfl rfl rfl ?_ | refine BA rfl rfl rfl rfl rfl rfl rfl ?_) | (refine IsConv ?_; refine C1 rfl rfl rfl rfl rfl ?_) | (refine IsLoad ?_; first | refine L1 rfl rfl rfl rfl ?_ | refine L2 rfl rfl rfl rfl rfl ?_) | (refine IsStore ?_; refine S1 rfl rfl rfl rfl rfl rfl rfl (fun _ => ?_)) | (refine IsBox ?_; refine N1 rfl rfl rfl rfl (fun _ => ?_)) | (refine IsAlloc ?_; refine N2 rfl rfl rfl rfl (fun _ => ?_)) | (refine IsBuild ?_; refine U1 rfl rfl rfl rfl rfl rfl ?_) | refine V1 rfl rfl rfl ?_) | (refine IsAt ?_; first | (with_reducible first | refine T1 ?_ | refine T2 ?_ | refine T3 ?_ | refine T4 ?_ | refine T5 ?_ | refine T6 ?_ | refine T7 ?_ | refine T8 ?_ | refine T9 ?_ | refine TA ?_ | refine TB ?_ | refine TC ?_) | ((with_reducible show At _ (PBlock _ _ (Exit.exit _)) _ _); first | refine At_block_hit ?_ | refine At_block_miss rfl ?_)) | (refine IsJ ?_; first | refine J_seq ?_ | refine J_region ?_ | refine J_block ?_ | refine J_skip ?_ | refine J_ret ?_ | refine J_exit ?_ | (refine IsCond ?_; first | refine J_cond_t rfl ?_ | refine J_cond_f rfl ?_ | refine K1 rfl ?_ | refine K2 rfl ?_ | refine K3 rfl ?_ | refine K4 rfl ?_ | refine J_cb rfl (fun _ => ?_) (fun _ => ?_) | refine J_nb rfl (fun _ => ?_) (fun _ => ?_))))
    exact At_ret rfl rfl (.tmp rfl .nil) rfl (is := [2, 2, 2, 0, 0]) rfl ⟨rfl, rfl⟩
  obtain ⟨k1, k2, k3, k4, k5⟩ := findR_some (x := b) h hc hj
  have hjl : j < os.length := (List.getElem?_eq_some_iff.1 hj).1
  have e : leftN ws st b = 1 + (o'.ws.length : Int) := by
    unfold leftN
    rw [if_pos (hji ▸ k1), ← hji, Int.toNat_natCast, getD_of k2, (packI_un k3).2.2.2.1]
  rw [e]
  refine At_fact _ (fun w hs => rowz_len hs (.head _)) ?_
  rintro ⟨hl, hnn, _⟩
  have hRo : Reads (objsZ a c os) 5 os.length a c (os.flatMap cellsO) := Reads.rowz hl hnn
  refine At_fact _ (fun w hs => hRo.some (by omega) hs (.head _)) ?_
  rintro ⟨bo, of, rfl⟩
  repeat' (first | (refine IsO ?_; first | refine JO_nil ?_ | (refine IsG ?_; first | refine G1 rfl rfl ?_ | refine G2 rfl ?_) | (refine IsMove ?_; first | refine M1 rfl rfl rfl ?_ | refine M2 rfl rfl rfl ?_ | refine M3 rfl rfl rfl ?_ | refine M4 rfl rfl rfl ?_ | refine M5 rfl rfl rfl (fun _ => ?_) (fun _ => ?_) | refine M6 rfl rfl rfl (fun _ => ?_) (fun _ => ?_)) | (refine IsBin ?_; first | refine B1 rfl rfl rfl rfl ?_ | refine B2 rfl rfl rfl rfl ?_ | refine B3 rfl rfl rfl rfl ?_ | refine B4 rfl rfl rfl rfl ?_ | refine B5 rfl rfl rfl rfl ?_ | refine B6 rfl rfl rfl rfl ?_ | refine B7 rfl rfl rfl rfl rfl ?_ | refine B8 rfl rfl rfl rfl rfl ?_ | refine B9 rfl rfl rfl rfl rfl rfl rfl ?_ | refine BA rfl rfl rfl rfl rfl rfl rfl ?_) | (refine IsConv ?_; refine C1 rfl rfl rfl rfl rfl ?_) | (refine IsLoad ?_; first | refine L1 rfl rfl rfl rfl ?_ | refine L2 rfl rfl rfl rfl rfl ?_) | (refine IsStore ?_; refine S1 rfl rfl rfl rfl rfl rfl rfl (fun _ => ?_)) | (refine IsBox ?_; refine N1 rfl rfl rfl rfl (fun _ => ?_)) | (refine IsAlloc ?_; refine N2 rfl rfl rfl rfl (fun _ => ?_)) | (refine IsBuild ?_; refine U1 rfl rfl rfl rfl rfl rfl ?_) | refine V1 rfl rfl rfl ?_) | (refine IsAt ?_; first | (with_reducible first | refine T1 ?_ | refine T2 ?_ | refine T3 ?_ | refine T4 ?_ | refine T5 ?_ | refine T6 ?_ | refine T7 ?_ | refine T8 ?_ | refine T9 ?_ | refine TA ?_ | refine TB ?_ | refine TC ?_) | ((with_reducible show At _ (PBlock _ _ (Exit.exit _)) _ _); first | refine At_block_hit ?_ | refine At_block_miss rfl ?_)) | (refine IsJ ?_; first | refine J_seq ?_ | refine J_region ?_ | refine J_block ?_ | refine J_skip ?_ | refine J_ret ?_ | refine J_exit ?_ | (refine IsCond ?_; first | refine J_cond_t rfl ?_ | refine J_cond_f rfl ?_ | refine K1 rfl ?_ | refine K2 rfl ?_ | refine K3 rfl ?_ | refine K4 rfl ?_ | refine J_cb rfl (fun _ => ?_) (fun _ => ?_) | refine J_nb rfl (fun _ => ?_) (fun _ => ?_))))
  refine JO_val (OV_idx (off := of + j * 5) rfl rfl rfl rfl (by omega) (by omega) (by simp)) rfl rfl ?_
  repeat' (first | (refine IsO ?_; first | refine JO_nil ?_ | (refine IsG ?_; first | refine G1 rfl rfl ?_ | refine G2 rfl ?_) | (refine IsMove ?_; first | refine M1 rfl rfl rfl ?_ | refine M2 rfl rfl rfl ?_ | refine M3 rfl rfl rfl ?_ | refine M4 rfl rfl rfl ?_ | refine M5 rfl rfl rfl (fun _ => ?_) (fun _ => ?_) | refine M6 rfl rfl rfl (fun _ => ?_) (fun _ => ?_)) | (refine IsBin ?_; first | refine B1 rfl rfl rfl rfl ?_ | refine B2 rfl rfl rfl rfl ?_ | refine B3 rfl rfl rfl rfl ?_ | refine B4 rfl rfl rfl rfl ?_ | refine B5 rfl rfl rfl rfl ?_ | refine B6 rfl rfl rfl rfl ?_ | refine B7 rfl rfl rfl rfl rfl ?_ | refine B8 rfl rfl rfl rfl rfl ?_ | refine B9 rfl rfl rfl rfl rfl rfl rfl ?_ | refine BA rfl rfl rfl rfl rfl rfl rfl ?_) | (refine IsConv ?_; refine C1 rfl rfl rfl rfl rfl ?_) | (refine IsLoad ?_; first | refine L1 rfl rfl rfl rfl ?_ | refine L2 rfl rfl rfl rfl rfl ?_) | (refine IsStore ?_; refine S1 rfl rfl rfl rfl rfl rfl rfl (fun _ => ?_)) | (refine IsBox ?_; refine N1 rfl rfl rfl rfl (fun _ => ?_)) | (refine IsAlloc ?_; refine N2 rfl rfl rfl rfl (fun _ => ?_)) | (refine IsBuild ?_; refine U1 rfl rfl rfl rfl rfl rfl ?_) | refine V1 rfl rfl rfl ?_) | (refine IsAt ?_; first | (with_reducible first | refine T1 ?_ | refine T2 ?_ | refine T3 ?_ | refine T4 ?_ | refine T5 ?_ | refine T6 ?_ | refine T7 ?_ | refine T8 ?_ | refine T9 ?_ | refine TA ?_ | refine TB ?_ | refine TC ?_) | ((with_reducible show At _ (PBlock _ _ (Exit.exit _)) _ _); first | refine At_block_hit ?_ | refine At_block_miss rfl ?_)) | (refine IsJ ?_; first | refine J_seq ?_ | refine J_region ?_ | refine J_block ?_ | refine J_skip ?_ | refine J_ret ?_ | refine J_exit ?_ | (refine IsCond ?_; first | refine J_cond_t rfl ?_ | refine J_cond_f rfl ?_ | refine K1 rfl ?_ | refine K2 rfl ?_ | refine K3 rfl ?_ | refine K4 rfl ?_ | refine J_cb rfl (fun _ => ?_) (fun _ => ?_) | refine J_nb rfl (fun _ => ?_) (fun _ => ?_))))
  refine JO_q (OQ_read (i := j * 5 + 2) (v := .int .i64 o'.ws.length) hRo (by repeat (first | exact .head _ | refine .tail _ ?_)) rfl rfl (by omega) (by rw [objs_get hj (by omega)]; rfl)) rfl rfl ?_
  repeat' (first | (refine IsO ?_; first | refine JO_nil ?_ | (refine IsG ?_; first | refine G1 rfl rfl ?_ | refine G2 rfl ?_) | (refine IsMove ?_; first | refine M1 rfl rfl rfl ?_ | refine M2 rfl rfl rfl ?_ | refine M3 rfl rfl rfl ?_ | refine M4 rfl rfl rfl ?_ | refine M5 rfl rfl rfl (fun _ => ?_) (fun _ => ?_) | refine M6 rfl rfl rfl (fun _ => ?_) (fun _ => ?_)) | (refine IsBin ?_; first | refine B1 rfl rfl rfl rfl ?_ | refine B2 rfl rfl rfl rfl ?_ | refine B3 rfl rfl rfl rfl ?_ | refine B4 rfl rfl rfl rfl ?_ | refine B5 rfl rfl rfl rfl ?_ | refine B6 rfl rfl rfl rfl ?_ | refine B7 rfl rfl rfl rfl rfl ?_ | refine B8 rfl rfl rfl rfl rfl ?_ | refine B9 rfl rfl rfl rfl rfl rfl rfl ?_ | refine BA rfl rfl rfl rfl rfl rfl rfl ?_) | (refine IsConv ?_; refine C1 rfl rfl rfl rfl rfl ?_) | (refine IsLoad ?_; first | refine L1 rfl rfl rfl rfl ?_ | refine L2 rfl rfl rfl rfl rfl ?_) | (refine IsStore ?_; refine S1 rfl rfl rfl rfl rfl rfl rfl (fun _ => ?_)) | (refine IsBox ?_; refine N1 rfl rfl rfl rfl (fun _ => ?_)) | (refine IsAlloc ?_; refine N2 rfl rfl rfl rfl (fun _ => ?_)) | (refine IsBuild ?_; refine U1 rfl rfl rfl rfl rfl rfl ?_) | refine V1 rfl rfl rfl ?_) | (refine IsAt ?_; first | (with_reducible first | refine T1 ?_ | refine T2 ?_ | refine T3 ?_ | refine T4 ?_ | refine T5 ?_ | refine T6 ?_ | refine T7 ?_ | refine T8 ?_ | refine T9 ?_ | refine TA ?_ | refine TB ?_ | refine TC ?_) | ((with_reducible show At _ (PBlock _ _ (Exit.exit _)) _ _); first | refine At_block_hit ?_ | refine At_block_miss rfl ?_)) | (refine IsJ ?_; first | refine J_seq ?_ | refine J_region ?_ | refine J_block ?_ | refine J_skip ?_ | refine J_ret ?_ | refine J_exit ?_ | (refine IsCond ?_; first | refine J_cond_t rfl ?_ | refine J_cond_f rfl ?_ | refine K1 rfl ?_ | refine K2 rfl ?_ | refine K3 rfl ?_ | refine K4 rfl ?_ | refine J_cb rfl (fun _ => ?_) (fun _ => ?_) | refine J_nb rfl (fun _ => ?_) (fun _ => ?_))))
  exact At_ret rfl rfl (.tmp rfl .nil) rfl (is := [2, 2, 2, 0, 0]) rfl ⟨rfl, rfl⟩
end ops
end Go.Proofs.Ytchanmljjfcplaa
