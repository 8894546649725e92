/-
  Our own: the document's heaps (besomref01): Split.
-/
import Derived.Test.YtchanmljjfcplaaJq
import Derived.Test.YtchanmljjfcplaaGe
set_option linter.unusedVariables false
set_option linter.unusedSimpArgs false
namespace Go.Sep
theorem Reads.subs {R : HP} {sz m cap : Nat} {b o : Nat} {cs : List Value} (h : Reads R sz m (Option.some ⟨b, o, none⟩) cap cs) (k n cap' : Nat) (hk : k + n ≤ m) : Reads R sz n (Option.some ⟨b, o + k * sz, none⟩) cap' ((cs.drop (k * sz)).take (n * sz)) := by
  have hl := h.len
  have hkn : (k + n) * sz ≤ m * sz := Nat.mul_le_mul_right sz hk
  rw [Nat.add_mul] at hkn
  refine ⟨by simp; omega, (fun e => by cases e), fun W l w hs hm i hi => ?_⟩
  obtain ⟨b', o', e, hc⟩ := h.cell W l w hs hm (k * sz + i) (by omega)
  injection e with e
  injection e with e1 e2
  subst e1 e2
  refine ⟨b, o + k * sz, rfl, ?_⟩
  rw [Nat.add_assoc, hc, List.getElem?_take_of_lt hi, List.getElem?_drop]
theorem flat_takeN {α : Type} {f : α → List Value} {sz : Nat} (hf : ∀ y, (f y).length = sz) : ∀ {ys : List α} {j : Nat}, (ys.flatMap f).take (j * sz) = (ys.take j).flatMap f
  | [], j => by simp
  | y :: r, 0 => by simp
  | y :: r, j + 1 => by
    rw [List.take_succ_cons, List.flatMap_cons, List.flatMap_cons, ← flat_takeN hf (ys := r) (j := j), Nat.add_mul, Nat.one_mul, ← hf y, Nat.add_comm, List.take_length_add_append]
theorem flat_dropN {α : Type} {f : α → List Value} {sz : Nat} (hf : ∀ y, (f y).length = sz) : ∀ {ys : List α} {j : Nat}, (ys.flatMap f).drop (j * sz) = (ys.drop j).flatMap f
  | [], j => by simp
  | y :: r, 0 => by simp
  | y :: r, j + 1 => by
    rw [List.drop_succ_cons, List.flatMap_cons, ← flat_dropN hf (ys := r) (j := j), Nat.add_mul, Nat.one_mul, ← hf y, Nat.add_comm, List.drop_length_add_append]
theorem map_add0s (p : Option Addr) (sz : Nat) : p.map (·.add (0 * sz)) = p := by
  cases p with
  | none => rfl
  | some x => obtain ⟨b, o, m⟩ := x; cases m <;> simp [Addr.add]
theorem map_adds {b o m cap k sz : Nat} (h : m ≤ cap) (hk : k ≤ m) : ∃ o', (if cap = k then some (⟨b, o, none⟩ : Addr) else (some (⟨b, o, none⟩ : Addr)).map (·.add (k * sz))) = some ⟨b, o', none⟩ ∧ (o' = o + k * sz ∨ m = k) := by
  by_cases e : cap = k
  · exact ⟨o, by rw [if_pos e], .inr (by omega)⟩
  · refine ⟨o + k * sz, ?_, .inl rfl⟩
    rw [if_neg e, Option.map_some, addr_add]
theorem perm_mid {α : Type} {o : α} {os mid : List α} {j : Nat} (h : os[j]? = some o) : (mid ++ os).Perm ((os.take j ++ mid ++ os.drop (j + 1)) ++ [o]) := by
  have hlt : j < os.length := (List.getElem?_eq_some_iff.1 h).1
  have e : os = os.take j ++ o :: os.drop (j + 1) := by
    conv => lhs; rw [← List.take_append_drop j os]
    rw [List.drop_eq_getElem_cons hlt]
    rw [List.getElem?_eq_getElem hlt] at h
    injection h with h
    rw [h]
  have key : ∀ a b : List α, (mid ++ (a ++ o :: b)).Perm ((a ++ mid ++ b) ++ [o]) := fun a b => by
    have h1 : (a ++ o :: b).Perm (a ++ (b ++ [o])) := (List.perm_append_comm (l₁ := [o]) (l₂ := b)).append_left a
    have h2 : (mid ++ (a ++ (b ++ [o]))).Perm ((a ++ mid ++ b) ++ [o]) := by
      rw [← List.append_assoc, ← List.append_assoc]
      exact ((List.perm_append_comm (l₁ := mid) (l₂ := a)).append_right b).append_right [o]
    exact (h1.append_left mid).trans h2
  have := key (os.take j) (os.drop (j + 1))
  rw [← e] at this
  exact this
end Go.Sep
namespace Go.Proofs.Ytchanmljjfcplaa
open Go.Sep
/-- Objects from i on in words where the ones from there on are told elsewhere. -/
theorem Ch.put {ws ws' : List Int} {os : List RO} {j T : Nat} {o : RO} {mid : List RO} (hc : Ch ws 0 os T) (hj : os[j]? = some o) (hk : ∀ q : Nat, (q < o.i ∨ o.i + 1 + o.ws.length ≤ q) → ws'[q]? = ws[q]?) (hm : Ch ws' o.i mid (o.i + 1 + o.ws.length)) : Ch ws' 0 (os.take j ++ mid ++ os.drop (j + 1)) T := by
  obtain ⟨h1, h2⟩ := hc.at hj
  refine Ch.app.2 ⟨_, Ch.app.2 ⟨_, h1.keep fun q _ b => hk q (.inl b), hm⟩, h2.2.2.2.2.keep fun q b _ => hk q (.inr b)⟩
theorem zrep {k j : Nat} (h : j < k) : (List.replicate k (0 : Int))[j]? = some 0 := by rw [List.getElem?_replicate, if_pos h]
theorem plain_objs : ∀ os : List RO, plainL (os.flatMap cellsO) = true
  | [] => rfl
  | o :: r => plain_objs r
theorem take_objs {os : List RO} {j : Nat} (hj : j < os.length) : (os.take j).length = j := by simp; omega
section ops
variable {a : Option Addr} {cap : Nat} {os : List RO} {n T : Nat} {ws : List Int} {st : List Bool}
set_option maxHeartbeats 16000000 in
theorem refSplit_spec (size x kd ln pt : Int) (h : HT n T ws st) (hc : Ch ws 0 os T) : Does Try.prog 50 [refV size a os.length cap, .int .i64 x, headV kd ln pt] (refL a cap os)
    (fun v l => ∃ a' cap' os', Ch (splitW ws st x kd ln pt) 0 os' T ∧ v = .tuple #[refV size a' os'.length cap', .int .i64 (if splitR ws st x kd ln pt then x + 1 + ln else 0), .int .i64 (splitC ws st x kd ln pt)] ∧ l = refL a' cap' os') := by
  have hlen := hc.len
  have htn := h.tn
  have hnb := h.nb
  have hwl := h.wl
  refine Does.of tiok Try.func50 (by kernel_rfl) rfl Try.ntmps50 rfl ?_
  intro W fr
  refine J_rowzf P0 ?_
  rintro ⟨hl, hnn, hcc⟩
  have hR : Reads (objsZ a cap os) 5 os.length a cap (os.flatMap cellsO) := Reads.rowz hl hnn
  have hbad : ∀ c : Int, splitC ws st x kd ln pt = c → c ≠ 0 → Ch (splitW ws st x kd ln pt) 0 os T ∧ (if splitR ws st x kd ln pt then x + 1 + ln else 0) = 0 := fun c e hne => by
    refine ⟨?_, if_neg fun hr => hne (e ▸ hr.1)⟩
    unfold splitW
    rw [if_neg (fun e2 => hne (e ▸ e2))]
    exact hc
  repeat' (first | (refine IsO ?_; first | refine JO_nil ?_ | (refine IsG ?_; first | refine G1 rfl rfl ?_ | refine G2 rfl ?_) | (refine IsMove ?_; first | refine M1 rfl rfl rfl ?_ | refine M2 rfl rfl rfl ?_ | refine M3 rfl rfl rfl ?_ | refine M4 rfl rfl rfl ?_ | refine M5 rfl rfl rfl (fun _ => ?_) (fun _ => ?_) | refine M6 rfl rfl rfl (fun _ => ?_) (fun _ => ?_)) | (refine IsBin ?_; first | refine B1 rfl rfl rfl rfl ?_ | refine B2 rfl rfl rfl rfl ?_ | refine B3 rfl rfl rfl rfl ?_ | refine B4 rfl rfl rfl rfl ?_ | refine B5 rfl rfl rfl rfl ?_ | refine B6 rfl rfl rfl rfl ?_ | refine B7 rfl rfl rfl rfl rfl ?_ | refine B8 rfl rfl rfl rfl rfl ?_ | refine B9 rfl rfl rfl rfl rfl rfl rfl ?_ | refine BA rfl rfl rfl rfl rfl rfl rfl ?_) | (refine IsConv ?_; refine C1 rfl rfl rfl rfl rfl ?_) | (refine IsLoad ?_; first | refine L1 rfl rfl rfl rfl ?_ | refine L2 rfl rfl rfl rfl rfl ?_) | (refine IsStore ?_; refine S1 rfl rfl rfl rfl rfl rfl rfl (fun _ => ?_)) | (refine IsBox ?_; refine N1 rfl rfl rfl rfl (fun _ => ?_)) | (refine IsAlloc ?_; refine N2 rfl rfl rfl rfl (fun _ => ?_)) | (refine IsBuild ?_; refine U1 rfl rfl rfl rfl rfl rfl ?_) | refine V1 rfl rfl rfl ?_) | (refine IsAt ?_; first | (with_reducible first | refine T1 ?_ | refine T2 ?_ | refine T3 ?_ | refine T4 ?_ | refine T5 ?_ | refine T6 ?_ | refine T7 ?_ | refine T8 ?_ | refine T9 ?_ | refine TA ?_ | refine TB ?_ | refine TC ?_) | ((with_reducible show At _ (PBlock _ _ (Exit.exit _)) _ _); first | refine At_block_hit ?_ | refine At_block_miss rfl ?_)) | (refine IsJ ?_; first | refine J_seq ?_ | refine J_region ?_ | refine J_block ?_ | refine J_skip ?_ | refine J_ret ?_ | refine J_exit ?_ | (refine IsCond ?_; first | refine J_cond_t rfl ?_ | refine J_cond_f rfl ?_ | refine K1 rfl ?_ | refine K2 rfl ?_ | refine K3 rfl ?_ | refine K4 rfl ?_ | refine J_cb rfl (fun _ => ?_) (fun _ => ?_) | refine J_nb rfl (fun _ => ?_) (fun _ => ?_))))
  refine JO_l (OL_call [3, 3] rfl rfl rfl (Find_spec _ _ (by omega)) rfl) rfl rfl ?_; rintro _ _ ⟨_, ⟨r, hr, rfl, rfl⟩, rfl⟩
  rcases hr with ⟨j, o, rfl, hj, hi⟩ | ⟨rfl, hno⟩
  case inr =>
    have hno' := findR_none h hc hno
    have hC : splitC ws st x kd ln pt = 3 := by unfold splitC; rw [if_pos hno']
    obtain ⟨g1, g2⟩ := hbad 3 hC (by decide)
    rw [hC, g2]
    repeat' (first | (refine IsO ?_; first | refine JO_nil ?_ | (refine IsG ?_; first | refine G1 rfl rfl ?_ | refine G2 rfl ?_) | (refine IsMove ?_; first | refine M1 rfl rfl rfl ?_ | refine M2 rfl rfl rfl ?_ | refine M3 rfl rfl rfl ?_ | refine M4 rfl rfl rfl ?_ | refine M5 rfl rfl rfl (fun _ => ?_) (fun _ => ?_) | refine M6 rfl rfl rfl (fun _ => ?_) (fun _ => ?_)) | (refine IsBin ?_; first | refine B1 rfl rfl rfl rfl ?_ | refine B2 rfl rfl rfl rfl ?_ | refine B3 rfl rfl rfl rfl ?_ | refine B4 rfl rfl rfl rfl ?_ | refine B5 rfl rfl rfl rfl ?_ | refine B6 rfl rfl rfl rfl ?_ | refine B7 rfl rfl rfl rfl rfl ?_ | refine B8 rfl rfl rfl rfl rfl ?_ | refine B9 rfl rfl rfl rfl rfl rfl rfl ?_ | refine BA rfl rfl rfl rfl rfl rfl rfl ?_) | (refine IsConv ?_; refine C1 rfl rfl rfl rfl rfl ?_) | (refine IsLoad ?_; first | refine L1 rfl rfl rfl rfl ?_ | refine L2 rfl rfl rfl rfl rfl ?_) | (refine IsStore ?_; refine S1 rfl rfl rfl rfl rfl rfl rfl (fun _ => ?_)) | (refine IsBox ?_; refine N1 rfl rfl rfl rfl (fun _ => ?_)) | (refine IsAlloc ?_; refine N2 rfl rfl rfl rfl (fun _ => ?_)) | (refine IsBuild ?_; refine U1 rfl rfl rfl rfl rfl rfl ?_) | refine V1 rfl rfl rfl ?_) | (refine IsAt ?_; first | (with_reducible first | refine T1 ?_ | refine T2 ?_ | refine T3 ?_ | refine T4 ?_ | refine T5 ?_ | refine T6 ?_ | refine T7 ?_ | refine T8 ?_ | refine T9 ?_ | refine TA ?_ | refine TB ?_ | refine TC ?_) | ((with_reducible show At _ (PBlock _ _ (Exit.exit _)) _ _); first | refine At_block_hit ?_ | refine At_block_miss rfl ?_)) | (refine IsJ ?_; first | refine J_seq ?_ | refine J_region ?_ | refine J_block ?_ | refine J_skip ?_ | refine J_ret ?_ | refine J_exit ?_ | (refine IsCond ?_; first | refine J_cond_t rfl ?_ | refine J_cond_f rfl ?_ | refine K1 rfl ?_ | refine K2 rfl ?_ | refine K3 rfl ?_ | refine K4 rfl ?_ | refine J_cb rfl (fun _ => ?_) (fun _ => ?_) | refine J_nb rfl (fun _ => ?_) (fun _ => ?_))))
    exact At_ret rfl rfl (.agg rfl rfl rfl (by repeat (first | exact .head _ | refine .tail _ ?_)) rfl (.tmp rfl (.tmp rfl .nil))) rfl (is := [1, 1]) rfl ⟨a, cap, os, g1, rfl, rfl⟩
  obtain ⟨k0, k2, k3, k4, k5⟩ := findR_some (x := x) h hc hj
  have hjl : j < os.length := (List.getElem?_eq_some_iff.1 hj).1
  have hgb := of_decide_eq_true k3
  obtain ⟨u1, u2, u3, u4, u5⟩ := packI_un k3
  have e0 : ws.getD x.toNat 0 = packI o.k o.ws.length o.p := getD_of (by rw [show x.toNat = o.i by omega]; exact k2)
  have hob : isObj st x := by rw [← hi]; exact k0
  have hC : splitC ws st x kd ln pt = if o.k ≠ 15 then 2 else if goodB kd ln pt = false then 1 else if (o.ws.length : Int) < ln then 6 else 0 := by
    unfold splitC
    rw [if_neg (not_not_intro hob), e0, u3, u4]
  refine JO_fact _ (fun w hs => hR.some (by omega) hs (by repeat (first | exact .head _ | refine .tail _ ?_))) ?_
  rintro ⟨b, of, rfl⟩
  repeat' (first | (refine IsO ?_; first | refine JO_nil ?_ | (refine IsG ?_; first | refine G1 rfl rfl ?_ | refine G2 rfl ?_) | (refine IsMove ?_; first | refine M1 rfl rfl rfl ?_ | refine M2 rfl rfl rfl ?_ | refine M3 rfl rfl rfl ?_ | refine M4 rfl rfl rfl ?_ | refine M5 rfl rfl rfl (fun _ => ?_) (fun _ => ?_) | refine M6 rfl rfl rfl (fun _ => ?_) (fun _ => ?_)) | (refine IsBin ?_; first | refine B1 rfl rfl rfl rfl ?_ | refine B2 rfl rfl rfl rfl ?_ | refine B3 rfl rfl rfl rfl ?_ | refine B4 rfl rfl rfl rfl ?_ | refine B5 rfl rfl rfl rfl ?_ | refine B6 rfl rfl rfl rfl ?_ | refine B7 rfl rfl rfl rfl rfl ?_ | refine B8 rfl rfl rfl rfl rfl ?_ | refine B9 rfl rfl rfl rfl rfl rfl rfl ?_ | refine BA rfl rfl rfl rfl rfl rfl rfl ?_) | (refine IsConv ?_; refine C1 rfl rfl rfl rfl rfl ?_) | (refine IsLoad ?_; first | refine L1 rfl rfl rfl rfl ?_ | refine L2 rfl rfl rfl rfl rfl ?_) | (refine IsStore ?_; refine S1 rfl rfl rfl rfl rfl rfl rfl (fun _ => ?_)) | (refine IsBox ?_; refine N1 rfl rfl rfl rfl (fun _ => ?_)) | (refine IsAlloc ?_; refine N2 rfl rfl rfl rfl (fun _ => ?_)) | (refine IsBuild ?_; refine U1 rfl rfl rfl rfl rfl rfl ?_) | refine V1 rfl rfl rfl ?_) | (refine IsAt ?_; first | (with_reducible first | refine T1 ?_ | refine T2 ?_ | refine T3 ?_ | refine T4 ?_ | refine T5 ?_ | refine T6 ?_ | refine T7 ?_ | refine T8 ?_ | refine T9 ?_ | refine TA ?_ | refine TB ?_ | refine TC ?_) | ((with_reducible show At _ (PBlock _ _ (Exit.exit _)) _ _); first | refine At_block_hit ?_ | refine At_block_miss rfl ?_)) | (refine IsJ ?_; first | refine J_seq ?_ | refine J_region ?_ | refine J_block ?_ | refine J_skip ?_ | refine J_ret ?_ | refine J_exit ?_ | (refine IsCond ?_; first | refine J_cond_t rfl ?_ | refine J_cond_f rfl ?_ | refine K1 rfl ?_ | refine K2 rfl ?_ | refine K3 rfl ?_ | refine K4 rfl ?_ | refine J_cb rfl (fun _ => ?_) (fun _ => ?_) | refine J_nb rfl (fun _ => ?_) (fun _ => ?_))))
  refine JO_val (OV_idx (off := of + j * 5) rfl rfl rfl rfl (by omega) (by omega) (by simp)) rfl rfl ?_
  repeat' (first | (refine IsO ?_; first | refine JO_nil ?_ | (refine IsG ?_; first | refine G1 rfl rfl ?_ | refine G2 rfl ?_) | (refine IsMove ?_; first | refine M1 rfl rfl rfl ?_ | refine M2 rfl rfl rfl ?_ | refine M3 rfl rfl rfl ?_ | refine M4 rfl rfl rfl ?_ | refine M5 rfl rfl rfl (fun _ => ?_) (fun _ => ?_) | refine M6 rfl rfl rfl (fun _ => ?_) (fun _ => ?_)) | (refine IsBin ?_; first | refine B1 rfl rfl rfl rfl ?_ | refine B2 rfl rfl rfl rfl ?_ | refine B3 rfl rfl rfl rfl ?_ | refine B4 rfl rfl rfl rfl ?_ | refine B5 rfl rfl rfl rfl ?_ | refine B6 rfl rfl rfl rfl ?_ | refine B7 rfl rfl rfl rfl rfl ?_ | refine B8 rfl rfl rfl rfl rfl ?_ | refine B9 rfl rfl rfl rfl rfl rfl rfl ?_ | refine BA rfl rfl rfl rfl rfl rfl rfl ?_) | (refine IsConv ?_; refine C1 rfl rfl rfl rfl rfl ?_) | (refine IsLoad ?_; first | refine L1 rfl rfl rfl rfl ?_ | refine L2 rfl rfl rfl rfl rfl ?_) | (refine IsStore ?_; refine S1 rfl rfl rfl rfl rfl rfl rfl (fun _ => ?_)) | (refine IsBox ?_; refine N1 rfl rfl rfl rfl (fun _ => ?_)) | (refine IsAlloc ?_; refine N2 rfl rfl rfl rfl (fun _ => ?_)) | (refine IsBuild ?_; refine U1 rfl rfl rfl rfl rfl rfl ?_) | refine V1 rfl rfl rfl ?_) | (refine IsAt ?_; first | (with_reducible first | refine T1 ?_ | refine T2 ?_ | refine T3 ?_ | refine T4 ?_ | refine T5 ?_ | refine T6 ?_ | refine T7 ?_ | refine T8 ?_ | refine T9 ?_ | refine TA ?_ | refine TB ?_ | refine TC ?_) | ((with_reducible show At _ (PBlock _ _ (Exit.exit _)) _ _); first | refine At_block_hit ?_ | refine At_block_miss rfl ?_)) | (refine IsJ ?_; first | refine J_seq ?_ | refine J_region ?_ | refine J_block ?_ | refine J_skip ?_ | refine J_ret ?_ | refine J_exit ?_ | (refine IsCond ?_; first | refine J_cond_t rfl ?_ | refine J_cond_f rfl ?_ | refine K1 rfl ?_ | refine K2 rfl ?_ | refine K3 rfl ?_ | refine K4 rfl ?_ | refine J_cb rfl (fun _ => ?_) (fun _ => ?_) | refine J_nb rfl (fun _ => ?_) (fun _ => ?_))))
  refine JO_q (OQ_readA (i := j * 5 + 1) hR (by repeat (first | exact .head _ | refine .tail _ ?_)) rfl rfl rfl (by omega) (objs_head hj)) rfl rfl ?_
  by_cases hk : o.k = 15
  case neg =>
    rw [if_pos hk] at hC
    obtain ⟨g1, g2⟩ := hbad _ hC (by decide)
    rw [hC, g2]
    repeat' (first | (refine IsO ?_; first | refine JO_nil ?_ | (refine IsG ?_; first | refine G1 rfl rfl ?_ | refine G2 rfl ?_) | (refine IsMove ?_; first | refine M1 rfl rfl rfl ?_ | refine M2 rfl rfl rfl ?_ | refine M3 rfl rfl rfl ?_ | refine M4 rfl rfl rfl ?_ | refine M5 rfl rfl rfl (fun _ => ?_) (fun _ => ?_) | refine M6 rfl rfl rfl (fun _ => ?_) (fun _ => ?_)) | (refine IsBin ?_; first | refine B1 rfl rfl rfl rfl ?_ | refine B2 rfl rfl rfl rfl ?_ | refine B3 rfl rfl rfl rfl ?_ | refine B4 rfl rfl rfl rfl ?_ | refine B5 rfl rfl rfl rfl ?_ | refine B6 rfl rfl rfl rfl ?_ | refine B7 rfl rfl rfl rfl rfl ?_ | refine B8 rfl rfl rfl rfl rfl ?_ | refine B9 rfl rfl rfl rfl rfl rfl rfl ?_ | refine BA rfl rfl rfl rfl rfl rfl rfl ?_) | (refine IsConv ?_; refine C1 rfl rfl rfl rfl rfl ?_) | (refine IsLoad ?_; first | refine L1 rfl rfl rfl rfl ?_ | refine L2 rfl rfl rfl rfl rfl ?_) | (refine IsStore ?_; refine S1 rfl rfl rfl rfl rfl rfl rfl (fun _ => ?_)) | (refine IsBox ?_; refine N1 rfl rfl rfl rfl (fun _ => ?_)) | (refine IsAlloc ?_; refine N2 rfl rfl rfl rfl (fun _ => ?_)) | (refine IsBuild ?_; refine U1 rfl rfl rfl rfl rfl rfl ?_) | refine V1 rfl rfl rfl ?_) | (refine IsAt ?_; first | (with_reducible first | refine T1 ?_ | refine T2 ?_ | refine T3 ?_ | refine T4 ?_ | refine T5 ?_ | refine T6 ?_ | refine T7 ?_ | refine T8 ?_ | refine T9 ?_ | refine TA ?_ | refine TB ?_ | refine TC ?_) | ((with_reducible show At _ (PBlock _ _ (Exit.exit _)) _ _); first | refine At_block_hit ?_ | refine At_block_miss rfl ?_)) | (refine IsJ ?_; first | refine J_seq ?_ | refine J_region ?_ | refine J_block ?_ | refine J_skip ?_ | refine J_ret ?_ | refine J_exit ?_ | (refine IsCond ?_; first | refine J_cond_t rfl ?_ | refine J_cond_f rfl ?_ | refine K1 rfl ?_ | refine K2 rfl ?_ | refine K3 rfl ?_ | refine K4 rfl ?_ | refine J_cb rfl (fun _ => ?_) (fun _ => ?_) | refine J_nb rfl (fun _ => ?_) (fun _ => ?_))))
    exact At_ret rfl rfl (.agg rfl rfl rfl (by repeat (first | exact .head _ | refine .tail _ ?_)) rfl (.tmp rfl (.tmp rfl .nil))) rfl (is := [2, 2]) rfl ⟨_, cap, os, g1, rfl, rfl⟩
  rw [if_neg (not_not_intro hk)] at hC
  repeat' (first | (refine IsO ?_; first | refine JO_nil ?_ | (refine IsG ?_; first | refine G1 rfl rfl ?_ | refine G2 rfl ?_) | (refine IsMove ?_; first | refine M1 rfl rfl rfl ?_ | refine M2 rfl rfl rfl ?_ | refine M3 rfl rfl rfl ?_ | refine M4 rfl rfl rfl ?_ | refine M5 rfl rfl rfl (fun _ => ?_) (fun _ => ?_) | refine M6 rfl rfl rfl (fun _ => ?_) (fun _ => ?_)) | (refine IsBin ?_; first | refine B1 rfl rfl rfl rfl ?_ | refine B2 rfl rfl rfl rfl ?_ | refine B3 rfl rfl rfl rfl ?_ | refine B4 rfl rfl rfl rfl ?_ | refine B5 rfl rfl rfl rfl ?_ | refine B6 rfl rfl rfl rfl ?_ | refine B7 rfl rfl rfl rfl rfl ?_ | refine B8 rfl rfl rfl rfl rfl ?_ | refine B9 rfl rfl rfl rfl rfl rfl rfl ?_ | refine BA rfl rfl rfl rfl rfl rfl rfl ?_) | (refine IsConv ?_; refine C1 rfl rfl rfl rfl rfl ?_) | (refine IsLoad ?_; first | refine L1 rfl rfl rfl rfl ?_ | refine L2 rfl rfl rfl rfl rfl ?_) | (refine IsStore ?_; refine S1 rfl rfl rfl rfl rfl rfl rfl (fun _ => ?_)) | (refine IsBox ?_; refine N1 rfl rfl rfl rfl (fun _ => ?_)) | (refine IsAlloc ?_; refine N2 rfl rfl rfl rfl (fun _ => ?_)) | (refine IsBuild ?_; refine U1 rfl rfl rfl rfl rfl rfl ?_) | refine V1 rfl rfl rfl ?_) | (refine IsAt ?_; first | (with_reducible first | refine T1 ?_ | refine T2 ?_ | refine T3 ?_ | refine T4 ?_ | refine T5 ?_ | refine T6 ?_ | refine T7 ?_ | refine T8 ?_ | refine T9 ?_ | refine TA ?_ | refine TB ?_ | refine TC ?_) | ((with_reducible show At _ (PBlock _ _ (Exit.exit _)) _ _); first | refine At_block_hit ?_ | refine At_block_miss rfl ?_)) | (refine IsJ ?_; first | refine J_seq ?_ | refine J_region ?_ | refine J_block ?_ | refine J_skip ?_ | refine J_ret ?_ | refine J_exit ?_ | (refine IsCond ?_; first | refine J_cond_t rfl ?_ | refine J_cond_f rfl ?_ | refine K1 rfl ?_ | refine K2 rfl ?_ | refine K3 rfl ?_ | refine K4 rfl ?_ | refine J_cb rfl (fun _ => ?_) (fun _ => ?_) | refine J_nb rfl (fun _ => ?_) (fun _ => ?_))))
  refine JO_l (OL_call [] rfl rfl rfl (refGood_spec kd ln pt) rfl) rfl rfl ?_; rintro _ _ ⟨_, ⟨rfl, rfl⟩, rfl⟩
  cases hg : goodB kd ln pt with
  | false =>
    rw [if_pos hg] at hC
    obtain ⟨g1, g2⟩ := hbad _ hC (by decide)
    rw [hC, g2]
    repeat' (first | (refine IsO ?_; first | refine JO_nil ?_ | (refine IsG ?_; first | refine G1 rfl rfl ?_ | refine G2 rfl ?_) | (refine IsMove ?_; first | refine M1 rfl rfl rfl ?_ | refine M2 rfl rfl rfl ?_ | refine M3 rfl rfl rfl ?_ | refine M4 rfl rfl rfl ?_ | refine M5 rfl rfl rfl (fun _ => ?_) (fun _ => ?_) | refine M6 rfl rfl rfl (fun _ => ?_) (fun _ => ?_)) | (refine IsBin ?_; first | refine B1 rfl rfl rfl rfl ?_ | refine B2 rfl rfl rfl rfl ?_ | refine B3 rfl rfl rfl rfl ?_ | refine B4 rfl rfl rfl rfl ?_ | refine B5 rfl rfl rfl rfl ?_ | refine B6 rfl rfl rfl rfl ?_ | refine B7 rfl rfl rfl rfl rfl ?_ | refine B8 rfl rfl rfl rfl rfl ?_ | refine B9 rfl rfl rfl rfl rfl rfl rfl ?_ | refine BA rfl rfl rfl rfl rfl rfl rfl ?_) | (refine IsConv ?_; refine C1 rfl rfl rfl rfl rfl ?_) | (refine IsLoad ?_; first | refine L1 rfl rfl rfl rfl ?_ | refine L2 rfl rfl rfl rfl rfl ?_) | (refine IsStore ?_; refine S1 rfl rfl rfl rfl rfl rfl rfl (fun _ => ?_)) | (refine IsBox ?_; refine N1 rfl rfl rfl rfl (fun _ => ?_)) | (refine IsAlloc ?_; refine N2 rfl rfl rfl rfl (fun _ => ?_)) | (refine IsBuild ?_; refine U1 rfl rfl rfl rfl rfl rfl ?_) | refine V1 rfl rfl rfl ?_) | (refine IsAt ?_; first | (with_reducible first | refine T1 ?_ | refine T2 ?_ | refine T3 ?_ | refine T4 ?_ | refine T5 ?_ | refine T6 ?_ | refine T7 ?_ | refine T8 ?_ | refine T9 ?_ | refine TA ?_ | refine TB ?_ | refine TC ?_) | ((with_reducible show At _ (PBlock _ _ (Exit.exit _)) _ _); first | refine At_block_hit ?_ | refine At_block_miss rfl ?_)) | (refine IsJ ?_; first | refine J_seq ?_ | refine J_region ?_ | refine J_block ?_ | refine J_skip ?_ | refine J_ret ?_ | refine J_exit ?_ | (refine IsCond ?_; first | refine J_cond_t rfl ?_ | refine J_cond_f rfl ?_ | refine K1 rfl ?_ | refine K2 rfl ?_ | refine K3 rfl ?_ | refine K4 rfl ?_ | refine J_cb rfl (fun _ => ?_) (fun _ => ?_) | refine J_nb rfl (fun _ => ?_) (fun _ => ?_))))
    exact At_ret rfl rfl (.agg rfl rfl rfl (by repeat (first | exact .head _ | refine .tail _ ?_)) rfl (.tmp rfl (.tmp rfl .nil))) rfl (is := [2, 2]) rfl ⟨_, cap, os, g1, rfl, rfl⟩
  | true =>
    rw [if_neg (by rw [hg]; decide)] at hC
    have hgb2 := of_decide_eq_true hg
    obtain ⟨k, rfl⟩ := Int.eq_ofNat_of_zero_le hgb2.2.2.1
    by_cases hfit : (o.ws.length : Int) < k
    case pos =>
      rw [if_pos hfit] at hC
      obtain ⟨g1, g2⟩ := hbad _ hC (by decide)
      rw [hC, g2]
      repeat' (first | (refine IsO ?_; first | refine JO_nil ?_ | (refine IsG ?_; first | refine G1 rfl rfl ?_ | refine G2 rfl ?_) | (refine IsMove ?_; first | refine M1 rfl rfl rfl ?_ | refine M2 rfl rfl rfl ?_ | refine M3 rfl rfl rfl ?_ | refine M4 rfl rfl rfl ?_ | refine M5 rfl rfl rfl (fun _ => ?_) (fun _ => ?_) | refine M6 rfl rfl rfl (fun _ => ?_) (fun _ => ?_)) | (refine IsBin ?_; first | refine B1 rfl rfl rfl rfl ?_ | refine B2 rfl rfl rfl rfl ?_ | refine B3 rfl rfl rfl rfl ?_ | refine B4 rfl rfl rfl rfl ?_ | refine B5 rfl rfl rfl rfl ?_ | refine B6 rfl rfl rfl rfl ?_ | refine B7 rfl rfl rfl rfl rfl ?_ | refine B8 rfl rfl rfl rfl rfl ?_ | refine B9 rfl rfl rfl rfl rfl rfl rfl ?_ | refine BA rfl rfl rfl rfl rfl rfl rfl ?_) | (refine IsConv ?_; refine C1 rfl rfl rfl rfl rfl ?_) | (refine IsLoad ?_; first | refine L1 rfl rfl rfl rfl ?_ | refine L2 rfl rfl rfl rfl rfl ?_) | (refine IsStore ?_; refine S1 rfl rfl rfl rfl rfl rfl rfl (fun _ => ?_)) | (refine IsBox ?_; refine N1 rfl rfl rfl rfl (fun _ => ?_)) | (refine IsAlloc ?_; refine N2 rfl rfl rfl rfl (fun _ => ?_)) | (refine IsBuild ?_; refine U1 rfl rfl rfl rfl rfl rfl ?_) | refine V1 rfl rfl rfl ?_) | (refine IsAt ?_; first | (with_reducible first | refine T1 ?_ | refine T2 ?_ | refine T3 ?_ | refine T4 ?_ | refine T5 ?_ | refine T6 ?_ | refine T7 ?_ | refine T8 ?_ | refine T9 ?_ | refine TA ?_ | refine TB ?_ | refine TC ?_) | ((with_reducible show At _ (PBlock _ _ (Exit.exit _)) _ _); first | refine At_block_hit ?_ | refine At_block_miss rfl ?_)) | (refine IsJ ?_; first | refine J_seq ?_ | refine J_region ?_ | refine J_block ?_ | refine J_skip ?_ | refine J_ret ?_ | refine J_exit ?_ | (refine IsCond ?_; first | refine J_cond_t rfl ?_ | refine J_cond_f rfl ?_ | refine K1 rfl ?_ | refine K2 rfl ?_ | refine K3 rfl ?_ | refine K4 rfl ?_ | refine J_cb rfl (fun _ => ?_) (fun _ => ?_) | refine J_nb rfl (fun _ => ?_) (fun _ => ?_))))
      exact At_ret rfl rfl (.agg rfl rfl rfl (by repeat (first | exact .head _ | refine .tail _ ?_)) rfl (.tmp rfl (.tmp rfl .nil))) rfl (is := [2, 2]) rfl ⟨_, cap, os, g1, rfl, rfl⟩
    rw [if_neg hfit] at hC
    rw [hC]
    repeat' (first | (refine IsO ?_; first | refine JO_nil ?_ | (refine IsG ?_; first | refine G1 rfl rfl ?_ | refine G2 rfl ?_) | (refine IsMove ?_; first | refine M1 rfl rfl rfl ?_ | refine M2 rfl rfl rfl ?_ | refine M3 rfl rfl rfl ?_ | refine M4 rfl rfl rfl ?_ | refine M5 rfl rfl rfl (fun _ => ?_) (fun _ => ?_) | refine M6 rfl rfl rfl (fun _ => ?_) (fun _ => ?_)) | (refine IsBin ?_; first | refine B1 rfl rfl rfl rfl ?_ | refine B2 rfl rfl rfl rfl ?_ | refine B3 rfl rfl rfl rfl ?_ | refine B4 rfl rfl rfl rfl ?_ | refine B5 rfl rfl rfl rfl ?_ | refine B6 rfl rfl rfl rfl ?_ | refine B7 rfl rfl rfl rfl rfl ?_ | refine B8 rfl rfl rfl rfl rfl ?_ | refine B9 rfl rfl rfl rfl rfl rfl rfl ?_ | refine BA rfl rfl rfl rfl rfl rfl rfl ?_) | (refine IsConv ?_; refine C1 rfl rfl rfl rfl rfl ?_) | (refine IsLoad ?_; first | refine L1 rfl rfl rfl rfl ?_ | refine L2 rfl rfl rfl rfl rfl ?_) | (refine IsStore ?_; refine S1 rfl rfl rfl rfl rfl rfl rfl (fun _ => ?_)) | (refine IsBox ?_; refine N1 rfl rfl rfl rfl (fun _ => ?_)) | (refine IsAlloc ?_; refine N2 rfl rfl rfl rfl (fun _ => ?_)) | (refine IsBuild ?_; refine U1 rfl rfl rfl rfl rfl rfl ?_) | refine V1 rfl rfl rfl ?_) | (refine IsAt ?_; first | (with_reducible first | refine T1 ?_ | refine T2 ?_ | refine T3 ?_ | refine T4 ?_ | refine T5 ?_ | refine T6 ?_ | refine T7 ?_ | refine T8 ?_ | refine T9 ?_ | refine TA ?_ | refine TB ?_ | refine TC ?_) | ((with_reducible show At _ (PBlock _ _ (Exit.exit _)) _ _); first | refine At_block_hit ?_ | refine At_block_miss rfl ?_)) | (refine IsJ ?_; first | refine J_seq ?_ | refine J_region ?_ | refine J_block ?_ | refine J_skip ?_ | refine J_ret ?_ | refine J_exit ?_ | (refine IsCond ?_; first | refine J_cond_t rfl ?_ | refine J_cond_f rfl ?_ | refine K1 rfl ?_ | refine K2 rfl ?_ | refine K3 rfl ?_ | refine K4 rfl ?_ | refine J_cb rfl (fun _ => ?_) (fun _ => ?_) | refine J_nb rfl (fun _ => ?_) (fun _ => ?_))))
    refine JO_l (OL_buildSlice (cs := []) rfl rfl rfl rfl rfl rfl rfl rfl) rfl rfl ?_
    rintro _ _ ⟨bz, rfl, rfl⟩
    repeat' (first | (refine IsO ?_; first | refine JO_nil ?_ | (refine IsG ?_; first | refine G1 rfl rfl ?_ | refine G2 rfl ?_) | (refine IsMove ?_; first | refine M1 rfl rfl rfl ?_ | refine M2 rfl rfl rfl ?_ | refine M3 rfl rfl rfl ?_ | refine M4 rfl rfl rfl ?_ | refine M5 rfl rfl rfl (fun _ => ?_) (fun _ => ?_) | refine M6 rfl rfl rfl (fun _ => ?_) (fun _ => ?_)) | (refine IsBin ?_; first | refine B1 rfl rfl rfl rfl ?_ | refine B2 rfl rfl rfl rfl ?_ | refine B3 rfl rfl rfl rfl ?_ | refine B4 rfl rfl rfl rfl ?_ | refine B5 rfl rfl rfl rfl ?_ | refine B6 rfl rfl rfl rfl ?_ | refine B7 rfl rfl rfl rfl rfl ?_ | refine B8 rfl rfl rfl rfl rfl ?_ | refine B9 rfl rfl rfl rfl rfl rfl rfl ?_ | refine BA rfl rfl rfl rfl rfl rfl rfl ?_) | (refine IsConv ?_; refine C1 rfl rfl rfl rfl rfl ?_) | (refine IsLoad ?_; first | refine L1 rfl rfl rfl rfl ?_ | refine L2 rfl rfl rfl rfl rfl ?_) | (refine IsStore ?_; refine S1 rfl rfl rfl rfl rfl rfl rfl (fun _ => ?_)) | (refine IsBox ?_; refine N1 rfl rfl rfl rfl (fun _ => ?_)) | (refine IsAlloc ?_; refine N2 rfl rfl rfl rfl (fun _ => ?_)) | (refine IsBuild ?_; refine U1 rfl rfl rfl rfl rfl rfl ?_) | refine V1 rfl rfl rfl ?_) | (refine IsAt ?_; first | (with_reducible first | refine T1 ?_ | refine T2 ?_ | refine T3 ?_ | refine T4 ?_ | refine T5 ?_ | refine T6 ?_ | refine T7 ?_ | refine T8 ?_ | refine T9 ?_ | refine TA ?_ | refine TB ?_ | refine TC ?_) | ((with_reducible show At _ (PBlock _ _ (Exit.exit _)) _ _); first | refine At_block_hit ?_ | refine At_block_miss rfl ?_)) | (refine IsJ ?_; first | refine J_seq ?_ | refine J_region ?_ | refine J_block ?_ | refine J_skip ?_ | refine J_ret ?_ | refine J_exit ?_ | (refine IsCond ?_; first | refine J_cond_t rfl ?_ | refine J_cond_f rfl ?_ | refine K1 rfl ?_ | refine K2 rfl ?_ | refine K3 rfl ?_ | refine K4 rfl ?_ | refine J_cb rfl (fun _ => ?_) (fun _ => ?_) | refine J_nb rfl (fun _ => ?_) (fun _ => ?_))))
    refine JO_val (OV_slice (m := 0) (n := (j : Int)) rfl rfl rfl rfl rfl rfl rfl (by omega) (by omega) (by omega) (p' := some ⟨b, of, none⟩) ?_) rfl rfl ?_
    · split
      · rfl
      · exact map_add0s _ _
    rw [show (j : Int).toNat - (0 : Int).toNat = j by omega]
    have hS1 : Reads (objsZ (some ⟨b, of, none⟩) cap os) 5 j (some ⟨b, of, none⟩) (cap - (0 : Int).toNat) ((os.take j).flatMap cellsO) := by
      have h1 := hR.subs 0 j (cap - (0 : Int).toNat) (by omega)
      rw [show of + 0 * 5 = of by omega, Nat.zero_mul, List.drop_zero, flat_takeN (f := cellsO) (fun _ => rfl)] at h1
      exact h1
    refine JO_l (OL_appendz (m := j) rfl rfl rfl rfl rfl (hS1.src (by repeat (first | exact .head _ | refine .tail _ ?_))) rfl (fun _ h => by cases h) (by omega) (by omega) (by decide)) rfl rfl ?_
    rintro _ _ ⟨a1, c1, rfl, rfl⟩
    subst hi
    rename_i b3 b5 b6 b10 _
    repeat' (first | (refine IsO ?_; first | refine JO_nil ?_ | (refine IsG ?_; first | refine G1 rfl rfl ?_ | refine G2 rfl ?_) | (refine IsMove ?_; first | refine M1 rfl rfl rfl ?_ | refine M2 rfl rfl rfl ?_ | refine M3 rfl rfl rfl ?_ | refine M4 rfl rfl rfl ?_ | refine M5 rfl rfl rfl (fun _ => ?_) (fun _ => ?_) | refine M6 rfl rfl rfl (fun _ => ?_) (fun _ => ?_)) | (refine IsBin ?_; first | refine B1 rfl rfl rfl rfl ?_ | refine B2 rfl rfl rfl rfl ?_ | refine B3 rfl rfl rfl rfl ?_ | refine B4 rfl rfl rfl rfl ?_ | refine B5 rfl rfl rfl rfl ?_ | refine B6 rfl rfl rfl rfl ?_ | refine B7 rfl rfl rfl rfl rfl ?_ | refine B8 rfl rfl rfl rfl rfl ?_ | refine B9 rfl rfl rfl rfl rfl rfl rfl ?_ | refine BA rfl rfl rfl rfl rfl rfl rfl ?_) | (refine IsConv ?_; refine C1 rfl rfl rfl rfl rfl ?_) | (refine IsLoad ?_; first | refine L1 rfl rfl rfl rfl ?_ | refine L2 rfl rfl rfl rfl rfl ?_) | (refine IsStore ?_; refine S1 rfl rfl rfl rfl rfl rfl rfl (fun _ => ?_)) | (refine IsBox ?_; refine N1 rfl rfl rfl rfl (fun _ => ?_)) | (refine IsAlloc ?_; refine N2 rfl rfl rfl rfl (fun _ => ?_)) | (refine IsBuild ?_; refine U1 rfl rfl rfl rfl rfl rfl ?_) | refine V1 rfl rfl rfl ?_) | (refine IsAt ?_; first | (with_reducible first | refine T1 ?_ | refine T2 ?_ | refine T3 ?_ | refine T4 ?_ | refine T5 ?_ | refine T6 ?_ | refine T7 ?_ | refine T8 ?_ | refine T9 ?_ | refine TA ?_ | refine TB ?_ | refine TC ?_) | ((with_reducible show At _ (PBlock _ _ (Exit.exit _)) _ _); first | refine At_block_hit ?_ | refine At_block_miss rfl ?_)) | (refine IsJ ?_; first | refine J_seq ?_ | refine J_region ?_ | refine J_block ?_ | refine J_skip ?_ | refine J_ret ?_ | refine J_exit ?_ | (refine IsCond ?_; first | refine J_cond_t rfl ?_ | refine J_cond_f rfl ?_ | refine K1 rfl ?_ | refine K2 rfl ?_ | refine K3 rfl ?_ | refine K4 rfl ?_ | refine J_cb rfl (fun _ => ?_) (fun _ => ?_) | refine J_nb rfl (fun _ => ?_) (fun _ => ?_))))
    refine J_drawk [blk b5 [.int .i64 kd, .int .i64 k, .int .i64 pt] 46] (fun H hl => hl.pick (is := [6]) rfl) [0, 0, 5, 0, 5, 2, 0, 2, 2, 0] (List.range 10) (by kernel_rfl) (by kernel_rfl) ?_
    repeat' (refine IsX ?_; first | (refine JX_nil ?_; refine At_np ?_) | (refine JX_op rfl ?_; refine XsO ?_; first | (refine XsG ?_; refine XG1 rfl rfl rfl ?_) | (refine XsMove ?_; first | refine XM1 rfl rfl rfl rfl ?_ | refine XM2 rfl rfl rfl rfl ?_ | refine XM3 rfl rfl rfl rfl ?_ | refine XM4 rfl rfl rfl rfl ?_ | refine XM5 rfl rfl rfl rfl (fun _ => ?_) (fun _ => ?_) | refine XM6 rfl rfl rfl rfl (fun _ => ?_) (fun _ => ?_)) | (refine XsBin ?_; first | refine XB1 rfl rfl rfl rfl rfl ?_ | refine XB2 rfl rfl rfl rfl rfl ?_ | refine XB3 rfl rfl rfl rfl rfl ?_ | refine XB4 rfl rfl rfl rfl rfl ?_ | refine XB5 rfl rfl rfl rfl rfl ?_ | refine XB6 rfl rfl rfl rfl rfl ?_ | refine XB7 rfl rfl rfl rfl rfl rfl ?_ | refine XB8 rfl rfl rfl rfl rfl rfl ?_ | refine XB9 rfl rfl rfl rfl rfl rfl rfl rfl ?_ | refine XBA rfl rfl rfl rfl rfl rfl rfl rfl ?_) | (refine XsConv ?_; refine XC1 rfl rfl rfl rfl rfl rfl ?_) | (refine XsLoad ?_; first | refine XL1k rfl rfl rfl rfl rfl ?_ | refine XL2k rfl rfl rfl rfl rfl rfl ?_ | refine XL1 rfl rfl rfl rfl rfl ?_ | refine XL2 rfl rfl rfl rfl rfl rfl ?_) | (refine XsStore ?_; refine XS1 rfl rfl rfl rfl rfl rfl rfl rfl (fun _ => ?_)) | (refine XsBox ?_; refine XN1 rfl rfl rfl rfl rfl (fun _ => ?_)) | (refine XsAlloc ?_; refine XN2 rfl rfl rfl rfl rfl (fun _ => ?_)) | (refine XsBuild ?_; refine XU1 rfl rfl rfl rfl rfl rfl rfl ?_) | refine XV1 rfl rfl rfl rfl ?_))
    refine JX_lk rfl rfl (OL_makeN rfl rfl rfl rfl (by omega) (by omega)) rfl rfl ?_ ?_
    · rintro _ _ ⟨_, rfl, rfl⟩ H hl
      exact hl.pick (is := [7]) rfl
    rintro _ _ ⟨bw, rfl, rfl⟩ _
    repeat' (refine IsX ?_; first | (refine JX_nil ?_; refine At_np ?_) | (refine JX_op rfl ?_; refine XsO ?_; first | (refine XsG ?_; refine XG1 rfl rfl rfl ?_) | (refine XsMove ?_; first | refine XM1 rfl rfl rfl rfl ?_ | refine XM2 rfl rfl rfl rfl ?_ | refine XM3 rfl rfl rfl rfl ?_ | refine XM4 rfl rfl rfl rfl ?_ | refine XM5 rfl rfl rfl rfl (fun _ => ?_) (fun _ => ?_) | refine XM6 rfl rfl rfl rfl (fun _ => ?_) (fun _ => ?_)) | (refine XsBin ?_; first | refine XB1 rfl rfl rfl rfl rfl ?_ | refine XB2 rfl rfl rfl rfl rfl ?_ | refine XB3 rfl rfl rfl rfl rfl ?_ | refine XB4 rfl rfl rfl rfl rfl ?_ | refine XB5 rfl rfl rfl rfl rfl ?_ | refine XB6 rfl rfl rfl rfl rfl ?_ | refine XB7 rfl rfl rfl rfl rfl rfl ?_ | refine XB8 rfl rfl rfl rfl rfl rfl ?_ | refine XB9 rfl rfl rfl rfl rfl rfl rfl rfl ?_ | refine XBA rfl rfl rfl rfl rfl rfl rfl rfl ?_) | (refine XsConv ?_; refine XC1 rfl rfl rfl rfl rfl rfl ?_) | (refine XsLoad ?_; first | refine XL1k rfl rfl rfl rfl rfl ?_ | refine XL2k rfl rfl rfl rfl rfl rfl ?_ | refine XL1 rfl rfl rfl rfl rfl ?_ | refine XL2 rfl rfl rfl rfl rfl rfl ?_) | (refine XsStore ?_; refine XS1 rfl rfl rfl rfl rfl rfl rfl rfl (fun _ => ?_)) | (refine XsBox ?_; refine XN1 rfl rfl rfl rfl rfl (fun _ => ?_)) | (refine XsAlloc ?_; refine XN2 rfl rfl rfl rfl rfl (fun _ => ?_)) | (refine XsBuild ?_; refine XU1 rfl rfl rfl rfl rfl rfl rfl ?_) | refine XV1 rfl rfl rfl rfl ?_))
    refine JX_lk rfl rfl (OL_buildSlice (cs := [.int .i64 o.i, .int .i64 kd, .int .i64 k, .int .i64 pt, .slice (some ⟨bw, 0, none⟩) k k]) rfl rfl rfl rfl rfl rfl rfl rfl) rfl rfl ?_ ?_
    · rintro _ _ ⟨_, rfl, rfl⟩ H hl
      exact hl.pick (is := [8]) rfl
    rintro _ _ ⟨bb, rfl, rfl⟩ _
    refine JX_lk rfl rfl (OL_appendr (m := 1) rfl rfl rfl rfl rfl P2 ((Reads.blk rfl).src (.head _)) rfl rfl (fun _ h => by cases h) (by omega) (by omega) (by decide)) rfl rfl ?_ ?_
    · rintro _ _ ⟨_, _, rfl, rfl⟩ H hl
      exact hl.pick (is := [8]) rfl
    rintro _ _ ⟨a2, c2, rfl, rfl⟩ _
    repeat' (refine IsX ?_; first | (refine JX_nil ?_; refine At_np ?_) | (refine JX_op rfl ?_; refine XsO ?_; first | (refine XsG ?_; refine XG1 rfl rfl rfl ?_) | (refine XsMove ?_; first | refine XM1 rfl rfl rfl rfl ?_ | refine XM2 rfl rfl rfl rfl ?_ | refine XM3 rfl rfl rfl rfl ?_ | refine XM4 rfl rfl rfl rfl ?_ | refine XM5 rfl rfl rfl rfl (fun _ => ?_) (fun _ => ?_) | refine XM6 rfl rfl rfl rfl (fun _ => ?_) (fun _ => ?_)) | (refine XsBin ?_; first | refine XB1 rfl rfl rfl rfl rfl ?_ | refine XB2 rfl rfl rfl rfl rfl ?_ | refine XB3 rfl rfl rfl rfl rfl ?_ | refine XB4 rfl rfl rfl rfl rfl ?_ | refine XB5 rfl rfl rfl rfl rfl ?_ | refine XB6 rfl rfl rfl rfl rfl ?_ | refine XB7 rfl rfl rfl rfl rfl rfl ?_ | refine XB8 rfl rfl rfl rfl rfl rfl ?_ | refine XB9 rfl rfl rfl rfl rfl rfl rfl rfl ?_ | refine XBA rfl rfl rfl rfl rfl rfl rfl rfl ?_) | (refine XsConv ?_; refine XC1 rfl rfl rfl rfl rfl rfl ?_) | (refine XsLoad ?_; first | refine XL1k rfl rfl rfl rfl rfl ?_ | refine XL2k rfl rfl rfl rfl rfl rfl ?_ | refine XL1 rfl rfl rfl rfl rfl ?_ | refine XL2 rfl rfl rfl rfl rfl rfl ?_) | (refine XsStore ?_; refine XS1 rfl rfl rfl rfl rfl rfl rfl rfl (fun _ => ?_)) | (refine XsBox ?_; refine XN1 rfl rfl rfl rfl rfl (fun _ => ?_)) | (refine XsAlloc ?_; refine XN2 rfl rfl rfl rfl rfl (fun _ => ?_)) | (refine XsBuild ?_; refine XU1 rfl rfl rfl rfl rfl rfl rfl ?_) | refine XV1 rfl rfl rfl rfl ?_))
    by_cases hrest : (k : Int) < o.ws.length
    · obtain ⟨r, hr⟩ : ∃ r : Nat, o.ws.length = k + 1 + r := ⟨o.ws.length - k - 1, by omega⟩
      have hRr : splitR ws st o.i kd k pt := by
        unfold splitR
        rw [e0, u4]
        exact ⟨hC, by omega⟩
      rw [if_pos hRr]
      repeat' (first | (refine IsO ?_; first | refine JO_nil ?_ | (refine IsG ?_; first | refine G1 rfl rfl ?_ | refine G2 rfl ?_) | (refine IsMove ?_; first | refine M1 rfl rfl rfl ?_ | refine M2 rfl rfl rfl ?_ | refine M3 rfl rfl rfl ?_ | refine M4 rfl rfl rfl ?_ | refine M5 rfl rfl rfl (fun _ => ?_) (fun _ => ?_) | refine M6 rfl rfl rfl (fun _ => ?_) (fun _ => ?_)) | (refine IsBin ?_; first | refine B1 rfl rfl rfl rfl ?_ | refine B2 rfl rfl rfl rfl ?_ | refine B3 rfl rfl rfl rfl ?_ | refine B4 rfl rfl rfl rfl ?_ | refine B5 rfl rfl rfl rfl ?_ | refine B6 rfl rfl rfl rfl ?_ | refine B7 rfl rfl rfl rfl rfl ?_ | refine B8 rfl rfl rfl rfl rfl ?_ | refine B9 rfl rfl rfl rfl rfl rfl rfl ?_ | refine BA rfl rfl rfl rfl rfl rfl rfl ?_) | (refine IsConv ?_; refine C1 rfl rfl rfl rfl rfl ?_) | (refine IsLoad ?_; first | refine L1 rfl rfl rfl rfl ?_ | refine L2 rfl rfl rfl rfl rfl ?_) | (refine IsStore ?_; refine S1 rfl rfl rfl rfl rfl rfl rfl (fun _ => ?_)) | (refine IsBox ?_; refine N1 rfl rfl rfl rfl (fun _ => ?_)) | (refine IsAlloc ?_; refine N2 rfl rfl rfl rfl (fun _ => ?_)) | (refine IsBuild ?_; refine U1 rfl rfl rfl rfl rfl rfl ?_) | refine V1 rfl rfl rfl ?_) | (refine IsAt ?_; first | (with_reducible first | refine T1 ?_ | refine T2 ?_ | refine T3 ?_ | refine T4 ?_ | refine T5 ?_ | refine T6 ?_ | refine T7 ?_ | refine T8 ?_ | refine T9 ?_ | refine TA ?_ | refine TB ?_ | refine TC ?_) | ((with_reducible show At _ (PBlock _ _ (Exit.exit _)) _ _); first | refine At_block_hit ?_ | refine At_block_miss rfl ?_)) | (refine IsJ ?_; first | refine J_seq ?_ | refine J_region ?_ | refine J_block ?_ | refine J_skip ?_ | refine J_ret ?_ | refine J_exit ?_ | (refine IsCond ?_; first | refine J_cond_t rfl ?_ | refine J_cond_f rfl ?_ | refine K1 rfl ?_ | refine K2 rfl ?_ | refine K3 rfl ?_ | refine K4 rfl ?_ | refine J_cb rfl (fun _ => ?_) (fun _ => ?_) | refine J_nb rfl (fun _ => ?_) (fun _ => ?_))))
      rw [show ((o.ws.length : Int) - k - 1) = (r : Int) by omega, show ((o.i : Int) + 1 + k) = ((o.i + 1 + k : Nat) : Int) by omega]
      refine JO_l (OL_makeN rfl rfl rfl rfl (by omega) (by omega)) rfl rfl ?_
      rintro _ _ ⟨br, rfl, rfl⟩
      repeat' (first | (refine IsO ?_; first | refine JO_nil ?_ | (refine IsG ?_; first | refine G1 rfl rfl ?_ | refine G2 rfl ?_) | (refine IsMove ?_; first | refine M1 rfl rfl rfl ?_ | refine M2 rfl rfl rfl ?_ | refine M3 rfl rfl rfl ?_ | refine M4 rfl rfl rfl ?_ | refine M5 rfl rfl rfl (fun _ => ?_) (fun _ => ?_) | refine M6 rfl rfl rfl (fun _ => ?_) (fun _ => ?_)) | (refine IsBin ?_; first | refine B1 rfl rfl rfl rfl ?_ | refine B2 rfl rfl rfl rfl ?_ | refine B3 rfl rfl rfl rfl ?_ | refine B4 rfl rfl rfl rfl ?_ | refine B5 rfl rfl rfl rfl ?_ | refine B6 rfl rfl rfl rfl ?_ | refine B7 rfl rfl rfl rfl rfl ?_ | refine B8 rfl rfl rfl rfl rfl ?_ | refine B9 rfl rfl rfl rfl rfl rfl rfl ?_ | refine BA rfl rfl rfl rfl rfl rfl rfl ?_) | (refine IsConv ?_; refine C1 rfl rfl rfl rfl rfl ?_) | (refine IsLoad ?_; first | refine L1 rfl rfl rfl rfl ?_ | refine L2 rfl rfl rfl rfl rfl ?_) | (refine IsStore ?_; refine S1 rfl rfl rfl rfl rfl rfl rfl (fun _ => ?_)) | (refine IsBox ?_; refine N1 rfl rfl rfl rfl (fun _ => ?_)) | (refine IsAlloc ?_; refine N2 rfl rfl rfl rfl (fun _ => ?_)) | (refine IsBuild ?_; refine U1 rfl rfl rfl rfl rfl rfl ?_) | refine V1 rfl rfl rfl ?_) | (refine IsAt ?_; first | (with_reducible first | refine T1 ?_ | refine T2 ?_ | refine T3 ?_ | refine T4 ?_ | refine T5 ?_ | refine T6 ?_ | refine T7 ?_ | refine T8 ?_ | refine T9 ?_ | refine TA ?_ | refine TB ?_ | refine TC ?_) | ((with_reducible show At _ (PBlock _ _ (Exit.exit _)) _ _); first | refine At_block_hit ?_ | refine At_block_miss rfl ?_)) | (refine IsJ ?_; first | refine J_seq ?_ | refine J_region ?_ | refine J_block ?_ | refine J_skip ?_ | refine J_ret ?_ | refine J_exit ?_ | (refine IsCond ?_; first | refine J_cond_t rfl ?_ | refine J_cond_f rfl ?_ | refine K1 rfl ?_ | refine K2 rfl ?_ | refine K3 rfl ?_ | refine K4 rfl ?_ | refine J_cb rfl (fun _ => ?_) (fun _ => ?_) | refine J_nb rfl (fun _ => ?_) (fun _ => ?_))))
      refine JO_l (OL_buildSlice (cs := [.int .i64 (o.i + 1 + k : Nat), .int .i64 15, .int .i64 r, .int .i64 0, .slice (some ⟨br, 0, none⟩) r r]) rfl rfl rfl rfl rfl rfl rfl rfl) rfl rfl ?_
      rintro _ _ ⟨bc, rfl, rfl⟩
      refine JO_l (OL_appendr (m := 1) rfl rfl rfl rfl rfl P2 ((Reads.blk rfl).src (.head _)) rfl rfl (fun _ h => by cases h) (by omega) (by omega) (by decide)) rfl rfl ?_
      rintro _ _ ⟨a4, c4, rfl, rfl⟩
      repeat' (first | (refine IsO ?_; first | refine JO_nil ?_ | (refine IsG ?_; first | refine G1 rfl rfl ?_ | refine G2 rfl ?_) | (refine IsMove ?_; first | refine M1 rfl rfl rfl ?_ | refine M2 rfl rfl rfl ?_ | refine M3 rfl rfl rfl ?_ | refine M4 rfl rfl rfl ?_ | refine M5 rfl rfl rfl (fun _ => ?_) (fun _ => ?_) | refine M6 rfl rfl rfl (fun _ => ?_) (fun _ => ?_)) | (refine IsBin ?_; first | refine B1 rfl rfl rfl rfl ?_ | refine B2 rfl rfl rfl rfl ?_ | refine B3 rfl rfl rfl rfl ?_ | refine B4 rfl rfl rfl rfl ?_ | refine B5 rfl rfl rfl rfl ?_ | refine B6 rfl rfl rfl rfl ?_ | refine B7 rfl rfl rfl rfl rfl ?_ | refine B8 rfl rfl rfl rfl rfl ?_ | refine B9 rfl rfl rfl rfl rfl rfl rfl ?_ | refine BA rfl rfl rfl rfl rfl rfl rfl ?_) | (refine IsConv ?_; refine C1 rfl rfl rfl rfl rfl ?_) | (refine IsLoad ?_; first | refine L1 rfl rfl rfl rfl ?_ | refine L2 rfl rfl rfl rfl rfl ?_) | (refine IsStore ?_; refine S1 rfl rfl rfl rfl rfl rfl rfl (fun _ => ?_)) | (refine IsBox ?_; refine N1 rfl rfl rfl rfl (fun _ => ?_)) | (refine IsAlloc ?_; refine N2 rfl rfl rfl rfl (fun _ => ?_)) | (refine IsBuild ?_; refine U1 rfl rfl rfl rfl rfl rfl ?_) | refine V1 rfl rfl rfl ?_) | (refine IsAt ?_; first | (with_reducible first | refine T1 ?_ | refine T2 ?_ | refine T3 ?_ | refine T4 ?_ | refine T5 ?_ | refine T6 ?_ | refine T7 ?_ | refine T8 ?_ | refine T9 ?_ | refine TA ?_ | refine TB ?_ | refine TC ?_) | ((with_reducible show At _ (PBlock _ _ (Exit.exit _)) _ _); first | refine At_block_hit ?_ | refine At_block_miss rfl ?_)) | (refine IsJ ?_; first | refine J_seq ?_ | refine J_region ?_ | refine J_block ?_ | refine J_skip ?_ | refine J_ret ?_ | refine J_exit ?_ | (refine IsCond ?_; first | refine J_cond_t rfl ?_ | refine J_cond_f rfl ?_ | refine K1 rfl ?_ | refine K2 rfl ?_ | refine K3 rfl ?_ | refine K4 rfl ?_ | refine J_cb rfl (fun _ => ?_) (fun _ => ?_) | refine J_nb rfl (fun _ => ?_) (fun _ => ?_))))
      refine JO_hp (fun H hl => hl.pick (is := [0, 3, 1, 4, 4, 4, 5]) rfl) ?_
      obtain ⟨o', ho', hko⟩ := map_adds (b := b) (o := of) (m := os.length) (cap := cap) (k := ((j : Int) + 1).toNat) (sz := 5) hcc (by omega)
      refine JO_val (OV_slice (m := (j : Int) + 1) (n := (os.length : Int)) rfl rfl rfl rfl rfl rfl rfl (by omega) (by omega) (by omega) ho') rfl rfl ?_
      rw [show ((os.length : Int)).toNat - ((j : Int) + 1).toNat = (os.drop (j + 1)).length by rw [List.length_drop]; omega]
      have hS2 : Reads (objsZ (some ⟨b, of, none⟩) cap os) 5 (os.drop (j + 1)).length (some ⟨b, o', none⟩) (cap - ((j : Int) + 1).toNat) ((os.drop (j + 1)).flatMap cellsO) := by
        rcases hko with e | e
        · have h1 := hR.subs (j + 1) (os.drop (j + 1)).length (cap - ((j : Int) + 1).toNat) (by rw [List.length_drop]; omega)
          rw [flat_dropN (f := cellsO) (fun _ => rfl), ← objs_len, List.take_length] at h1
          rw [e, show ((j : Int) + 1).toNat = j + 1 by omega]
          exact h1
        · rw [show os.drop (j + 1) = [] from List.drop_eq_nil_of_le (by omega)]
          exact Reads.zero
      have hdl : (os.drop (j + 1)).length ≤ os.length := by simp
      refine JO_l (OL_appendr (m := (os.drop (j + 1)).length) rfl rfl rfl rfl rfl P0 (hS2.src (by repeat (first | exact .head _ | refine .tail _ ?_))) (plain_objs _) rfl (fun _ h => by cases h) (by omega) (by omega) (by decide)) rfl rfl ?_
      rintro _ _ ⟨a3, c3, rfl, rfl⟩
      repeat' (first | (refine IsO ?_; first | refine JO_nil ?_ | (refine IsG ?_; first | refine G1 rfl rfl ?_ | refine G2 rfl ?_) | (refine IsMove ?_; first | refine M1 rfl rfl rfl ?_ | refine M2 rfl rfl rfl ?_ | refine M3 rfl rfl rfl ?_ | refine M4 rfl rfl rfl ?_ | refine M5 rfl rfl rfl (fun _ => ?_) (fun _ => ?_) | refine M6 rfl rfl rfl (fun _ => ?_) (fun _ => ?_)) | (refine IsBin ?_; first | refine B1 rfl rfl rfl rfl ?_ | refine B2 rfl rfl rfl rfl ?_ | refine B3 rfl rfl rfl rfl ?_ | refine B4 rfl rfl rfl rfl ?_ | refine B5 rfl rfl rfl rfl ?_ | refine B6 rfl rfl rfl rfl ?_ | refine B7 rfl rfl rfl rfl rfl ?_ | refine B8 rfl rfl rfl rfl rfl ?_ | refine B9 rfl rfl rfl rfl rfl rfl rfl ?_ | refine BA rfl rfl rfl rfl rfl rfl rfl ?_) | (refine IsConv ?_; refine C1 rfl rfl rfl rfl rfl ?_) | (refine IsLoad ?_; first | refine L1 rfl rfl rfl rfl ?_ | refine L2 rfl rfl rfl rfl rfl ?_) | (refine IsStore ?_; refine S1 rfl rfl rfl rfl rfl rfl rfl (fun _ => ?_)) | (refine IsBox ?_; refine N1 rfl rfl rfl rfl (fun _ => ?_)) | (refine IsAlloc ?_; refine N2 rfl rfl rfl rfl (fun _ => ?_)) | (refine IsBuild ?_; refine U1 rfl rfl rfl rfl rfl rfl ?_) | refine V1 rfl rfl rfl ?_) | (refine IsAt ?_; first | (with_reducible first | refine T1 ?_ | refine T2 ?_ | refine T3 ?_ | refine T4 ?_ | refine T5 ?_ | refine T6 ?_ | refine T7 ?_ | refine T8 ?_ | refine T9 ?_ | refine TA ?_ | refine TB ?_ | refine TC ?_) | ((with_reducible show At _ (PBlock _ _ (Exit.exit _)) _ _); first | refine At_block_hit ?_ | refine At_block_miss rfl ?_)) | (refine IsJ ?_; first | refine J_seq ?_ | refine J_region ?_ | refine J_block ?_ | refine J_skip ?_ | refine J_ret ?_ | refine J_exit ?_ | (refine IsCond ?_; first | refine J_cond_t rfl ?_ | refine J_cond_f rfl ?_ | refine K1 rfl ?_ | refine K2 rfl ?_ | refine K3 rfl ?_ | refine K4 rfl ?_ | refine J_cb rfl (fun _ => ?_) (fun _ => ?_) | refine J_nb rfl (fun _ => ?_) (fun _ => ?_))))
      have e3 : (os.take j ++ [(⟨o.i, kd, pt, List.replicate k 0, some ⟨bw, 0, none⟩, k⟩ : RO), ⟨o.i + 1 + k, 15, 0, List.replicate r 0, some ⟨br, 0, none⟩, r⟩] ++ os.drop (j + 1)).length = j + 1 + 1 + (os.drop (j + 1)).length := by rw [List.length_append, List.length_append, take_objs hjl]; first | done | rfl
      have e2 : (os.take j ++ [(⟨o.i, kd, pt, List.replicate k 0, some ⟨bw, 0, none⟩, k⟩ : RO), ⟨o.i + 1 + k, 15, 0, List.replicate r 0, some ⟨br, 0, none⟩, r⟩] ++ os.drop (j + 1)).flatMap cellsO = (os.take j).flatMap cellsO ++ [.int .i64 o.i, .int .i64 kd, .int .i64 k, .int .i64 pt, .slice (some ⟨bw, 0, none⟩) k k] ++ [.int .i64 (o.i + 1 + k : Nat), .int .i64 15, .int .i64 r, .int .i64 0, .slice (some ⟨br, 0, none⟩) r r] ++ (os.drop (j + 1)).flatMap cellsO := by simp
      refine At_ret' rfl rfl (.agg rfl rfl rfl (by repeat (first | exact .head _ | refine .tail _ ?_)) rfl (.tmp rfl (.tmp rfl .nil))) rfl (fun H hl => ?_) ⟨a3, c3, os.take j ++ [⟨o.i, kd, pt, List.replicate k 0, some ⟨bw, 0, none⟩, k⟩, ⟨o.i + 1 + k, 15, 0, List.replicate r 0, some ⟨br, 0, none⟩, r⟩] ++ os.drop (j + 1), ?_, by rw [e3]; rfl, rfl⟩
      · have h1 := hl.pick (is := [3, 3, 4, 2]) rfl
        have h2 := (rowO_new (i := o.i + 1 + k) (kd := 15) (pt := 0) (rowO_new (i := o.i) (kd := kd) (pt := pt) h1).swap).swap
        have h3 := RW.to (news := [⟨o.i, kd, pt, List.replicate k 0, some ⟨bw, 0, none⟩, k⟩, ⟨o.i + 1 + k, 15, 0, List.replicate r 0, some ⟨br, 0, none⟩, r⟩]) (os := os) (dr := [o]) (perm_mid hj) h2
        unfold refL objsZ
        rw [e2, e3]
        exact h3.swap
      · have hW : splitW ws st o.i kd k pt = zeroAt ((zeroAt (ws.set o.i (packI kd k pt)) (o.i + 1) k).set (o.i + 1 + k) (packI 15 r 0)) (o.i + 1 + k + 1) r := by
          unfold splitW
          rw [if_pos hC, e0, u4, if_neg (by omega), Int.toNat_natCast, Int.toNat_natCast, show (o.ws.length : Int) - k - 1 = (r : Int) by omega, Int.toNat_natCast]
        rw [hW]
        have hb : o.i + 1 + k ≤ ws.length := by omega
        have hl1 : (zeroAt (ws.set o.i (packI kd k pt)) (o.i + 1) k).length = ws.length := by rw [zeroAt_len (by simp; omega)]; simp
        have hb2 : o.i + 1 + k + 1 + r ≤ (zeroAt (ws.set o.i (packI kd k pt)) (o.i + 1) k).length := by omega
        refine Ch.put hc hj (fun q hq => (lay_out hb2 (by omega)).trans (lay_out hb (by omega))) ⟨rfl, ?_, ?_, ?_, ?_⟩
        · rw [List.length_replicate]; exact hg
        · rw [List.length_replicate]; exact (lay_out hb2 (by omega)).trans (lay_at hb)
        · intro q hq
          rw [List.length_replicate] at hq
          exact ((lay_out hb2 (by omega)).trans (zeroAt_in (by simp; omega) (by omega) (by omega))).trans (zrep hq).symm
        · rw [List.length_replicate]
          refine ⟨rfl, ?_, ?_, ?_, ?_⟩
          · rw [List.length_replicate]; exact decide_eq_true (by dsimp only; omega)
          · rw [List.length_replicate]; exact lay_at hb2
          · intro q hq
            rw [List.length_replicate] at hq
            exact (zeroAt_in (by simp; omega) (by omega) (by omega)).trans (zrep hq).symm
          · rw [List.length_replicate]
            show _ = _
            omega
    · have hkl : o.ws.length = k := by omega
      have hRr : ¬ splitR ws st o.i kd k pt := by
        unfold splitR
        rw [e0, u4, hkl]
        exact fun h => h.2 rfl
      rw [if_neg hRr]
      repeat' (first | (refine IsO ?_; first | refine JO_nil ?_ | (refine IsG ?_; first | refine G1 rfl rfl ?_ | refine G2 rfl ?_) | (refine IsMove ?_; first | refine M1 rfl rfl rfl ?_ | refine M2 rfl rfl rfl ?_ | refine M3 rfl rfl rfl ?_ | refine M4 rfl rfl rfl ?_ | refine M5 rfl rfl rfl (fun _ => ?_) (fun _ => ?_) | refine M6 rfl rfl rfl (fun _ => ?_) (fun _ => ?_)) | (refine IsBin ?_; first | refine B1 rfl rfl rfl rfl ?_ | refine B2 rfl rfl rfl rfl ?_ | refine B3 rfl rfl rfl rfl ?_ | refine B4 rfl rfl rfl rfl ?_ | refine B5 rfl rfl rfl rfl ?_ | refine B6 rfl rfl rfl rfl ?_ | refine B7 rfl rfl rfl rfl rfl ?_ | refine B8 rfl rfl rfl rfl rfl ?_ | refine B9 rfl rfl rfl rfl rfl rfl rfl ?_ | refine BA rfl rfl rfl rfl rfl rfl rfl ?_) | (refine IsConv ?_; refine C1 rfl rfl rfl rfl rfl ?_) | (refine IsLoad ?_; first | refine L1 rfl rfl rfl rfl ?_ | refine L2 rfl rfl rfl rfl rfl ?_) | (refine IsStore ?_; refine S1 rfl rfl rfl rfl rfl rfl rfl (fun _ => ?_)) | (refine IsBox ?_; refine N1 rfl rfl rfl rfl (fun _ => ?_)) | (refine IsAlloc ?_; refine N2 rfl rfl rfl rfl (fun _ => ?_)) | (refine IsBuild ?_; refine U1 rfl rfl rfl rfl rfl rfl ?_) | refine V1 rfl rfl rfl ?_) | (refine IsAt ?_; first | (with_reducible first | refine T1 ?_ | refine T2 ?_ | refine T3 ?_ | refine T4 ?_ | refine T5 ?_ | refine T6 ?_ | refine T7 ?_ | refine T8 ?_ | refine T9 ?_ | refine TA ?_ | refine TB ?_ | refine TC ?_) | ((with_reducible show At _ (PBlock _ _ (Exit.exit _)) _ _); first | refine At_block_hit ?_ | refine At_block_miss rfl ?_)) | (refine IsJ ?_; first | refine J_seq ?_ | refine J_region ?_ | refine J_block ?_ | refine J_skip ?_ | refine J_ret ?_ | refine J_exit ?_ | (refine IsCond ?_; first | refine J_cond_t rfl ?_ | refine J_cond_f rfl ?_ | refine K1 rfl ?_ | refine K2 rfl ?_ | refine K3 rfl ?_ | refine K4 rfl ?_ | refine J_cb rfl (fun _ => ?_) (fun _ => ?_) | refine J_nb rfl (fun _ => ?_) (fun _ => ?_))))
      refine JO_hp (fun H hl => hl.pick (is := [0, 1, 3, 3, 3, 4]) rfl) ?_
      obtain ⟨o', ho', hko⟩ := map_adds (b := b) (o := of) (m := os.length) (cap := cap) (k := ((j : Int) + 1).toNat) (sz := 5) hcc (by omega)
      refine JO_val (OV_slice (m := (j : Int) + 1) (n := (os.length : Int)) rfl rfl rfl rfl rfl rfl rfl (by omega) (by omega) (by omega) ho') rfl rfl ?_
      rw [show ((os.length : Int)).toNat - ((j : Int) + 1).toNat = (os.drop (j + 1)).length by rw [List.length_drop]; omega]
      have hS2 : Reads (objsZ (some ⟨b, of, none⟩) cap os) 5 (os.drop (j + 1)).length (some ⟨b, o', none⟩) (cap - ((j : Int) + 1).toNat) ((os.drop (j + 1)).flatMap cellsO) := by
        rcases hko with e | e
        · have h1 := hR.subs (j + 1) (os.drop (j + 1)).length (cap - ((j : Int) + 1).toNat) (by rw [List.length_drop]; omega)
          rw [flat_dropN (f := cellsO) (fun _ => rfl), ← objs_len, List.take_length] at h1
          rw [e, show ((j : Int) + 1).toNat = j + 1 by omega]
          exact h1
        · rw [show os.drop (j + 1) = [] from List.drop_eq_nil_of_le (by omega)]
          exact Reads.zero
      have hdl : (os.drop (j + 1)).length ≤ os.length := by simp
      refine JO_l (OL_appendr (m := (os.drop (j + 1)).length) rfl rfl rfl rfl rfl P0 (hS2.src (by repeat (first | exact .head _ | refine .tail _ ?_))) (plain_objs _) rfl (fun _ h => by cases h) (by omega) (by omega) (by decide)) rfl rfl ?_
      rintro _ _ ⟨a3, c3, rfl, rfl⟩
      repeat' (first | (refine IsO ?_; first | refine JO_nil ?_ | (refine IsG ?_; first | refine G1 rfl rfl ?_ | refine G2 rfl ?_) | (refine IsMove ?_; first | refine M1 rfl rfl rfl ?_ | refine M2 rfl rfl rfl ?_ | refine M3 rfl rfl rfl ?_ | refine M4 rfl rfl rfl ?_ | refine M5 rfl rfl rfl (fun _ => ?_) (fun _ => ?_) | refine M6 rfl rfl rfl (fun _ => ?_) (fun _ => ?_)) | (refine IsBin ?_; first | refine B1 rfl rfl rfl rfl ?_ | refine B2 rfl rfl rfl rfl ?_ | refine B3 rfl rfl rfl rfl ?_ | refine B4 rfl rfl rfl rfl ?_ | refine B5 rfl rfl rfl rfl ?_ | refine B6 rfl rfl rfl rfl ?_ | refine B7 rfl rfl rfl rfl rfl ?_ | refine B8 rfl rfl rfl rfl rfl ?_ | refine B9 rfl rfl rfl rfl rfl rfl rfl ?_ | refine BA rfl rfl rfl rfl rfl rfl rfl ?_) | (refine IsConv ?_; refine C1 rfl rfl rfl rfl rfl ?_) | (refine IsLoad ?_; first | refine L1 rfl rfl rfl rfl ?_ | refine L2 rfl rfl rfl rfl rfl ?_) | (refine IsStore ?_; refine S1 rfl rfl rfl rfl rfl rfl rfl (fun _ => ?_)) | (refine IsBox ?_; refine N1 rfl rfl rfl rfl (fun _ => ?_)) | (refine IsAlloc ?_; refine N2 rfl rfl rfl rfl (fun _ => ?_)) | (refine IsBuild ?_; refine U1 rfl rfl rfl rfl rfl rfl ?_) | refine V1 rfl rfl rfl ?_) | (refine IsAt ?_; first | (with_reducible first | refine T1 ?_ | refine T2 ?_ | refine T3 ?_ | refine T4 ?_ | refine T5 ?_ | refine T6 ?_ | refine T7 ?_ | refine T8 ?_ | refine T9 ?_ | refine TA ?_ | refine TB ?_ | refine TC ?_) | ((with_reducible show At _ (PBlock _ _ (Exit.exit _)) _ _); first | refine At_block_hit ?_ | refine At_block_miss rfl ?_)) | (refine IsJ ?_; first | refine J_seq ?_ | refine J_region ?_ | refine J_block ?_ | refine J_skip ?_ | refine J_ret ?_ | refine J_exit ?_ | (refine IsCond ?_; first | refine J_cond_t rfl ?_ | refine J_cond_f rfl ?_ | refine K1 rfl ?_ | refine K2 rfl ?_ | refine K3 rfl ?_ | refine K4 rfl ?_ | refine J_cb rfl (fun _ => ?_) (fun _ => ?_) | refine J_nb rfl (fun _ => ?_) (fun _ => ?_))))
      have e3 : (os.take j ++ [(⟨o.i, kd, pt, List.replicate k 0, some ⟨bw, 0, none⟩, k⟩ : RO)] ++ os.drop (j + 1)).length = j + 1 + (os.drop (j + 1)).length := by rw [List.length_append, List.length_append, take_objs hjl]; first | done | rfl
      have e2 : (os.take j ++ [(⟨o.i, kd, pt, List.replicate k 0, some ⟨bw, 0, none⟩, k⟩ : RO)] ++ os.drop (j + 1)).flatMap cellsO = (os.take j).flatMap cellsO ++ [.int .i64 o.i, .int .i64 kd, .int .i64 k, .int .i64 pt, .slice (some ⟨bw, 0, none⟩) k k] ++ (os.drop (j + 1)).flatMap cellsO := by simp
      refine At_ret' rfl rfl (.agg rfl rfl rfl (by repeat (first | exact .head _ | refine .tail _ ?_)) rfl (.tmp rfl (.tmp rfl .nil))) rfl (fun H hl => ?_) ⟨a3, c3, os.take j ++ [⟨o.i, kd, pt, List.replicate k 0, some ⟨bw, 0, none⟩, k⟩] ++ os.drop (j + 1), ?_, by rw [e3]; rfl, rfl⟩
      · have h1 := hl.pick (is := [3, 4, 2]) rfl
        have h3 := RW.to (news := [⟨o.i, kd, pt, List.replicate k 0, some ⟨bw, 0, none⟩, k⟩]) (os := os) (dr := [o]) (perm_mid hj) (rowO_new (i := o.i) (kd := kd) (pt := pt) h1)
        unfold refL objsZ
        rw [e2, e3]
        exact h3.swap
      · have hW : splitW ws st o.i kd k pt = zeroAt (ws.set o.i (packI kd k pt)) (o.i + 1) k := by
          unfold splitW
          rw [if_pos hC, e0, u4, if_pos (by omega), Int.toNat_natCast, Int.toNat_natCast]
        rw [hW]
        have hb : o.i + 1 + k ≤ ws.length := by omega
        refine Ch.put hc hj (fun q hq => lay_out hb (by omega)) ⟨rfl, ?_, ?_, ?_, ?_⟩
        · rw [List.length_replicate]; exact hg
        · rw [List.length_replicate]; exact lay_at hb
        · intro q hq
          rw [List.length_replicate] at hq
          exact (zeroAt_in (by simp; omega) (by omega) (by omega)).trans (zrep hq).symm
        · rw [List.length_replicate]
          show _ = _
          omega
end ops
end Go.Proofs.Ytchanmljjfcplaa
