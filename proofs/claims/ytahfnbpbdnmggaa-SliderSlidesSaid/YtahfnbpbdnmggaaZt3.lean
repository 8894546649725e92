/-
  Our own: what the claims of Zt share, 3 of 6: Gf Ge Gg Gi Gj Gk Jr Mk Na Nb Nc Nd Ne Nf Sra Hk Jv.
-/
import Derived.Test.YtahfnbpbdnmggaaZt2
import Derived.RangeFuncStops
import Derived.RangeFuncLeaves
import Derived.LoopNIn
import Derived.Laws.StructEq
import Derived.Tactics
import Derived.Laws.Slices
import Derived.Deep.Quiet
import Derived.IntWalk
import Derived.Shelf.Abstract
import Derived.Laws.Entries
import Derived.Laws.Rows
import Derived.Below
import Derived.TacticsIn
import Derived.OrdersIn
import Derived.KernelRfl
import Derived.Test.YtahfnbpbdnmggaaProg
import Derived.ChangeArms
import Derived.WalkKit
import Derived.ProofKit
import Derived.OpenShut
import Derived.ChangeOld
import Derived.SizedLaws
import Derived.Carry
import Derived.Lib.SmallJoins
import Derived.Laws.Shifts
import Derived.Laws.Bits64b
/-
  Our own: the document's heaps (besomref01): Write.
-/
set_option linter.unusedVariables false
set_option linter.unusedSimpArgs false
namespace Go.Proofs.Ytahfnbpbdnmggaa
open Go.Sep
theorem perm_set {α : Type} {x o : α} : ∀ {os : List α} {j : Nat}, os[j]? = some o → (x :: os).Perm (os.set j x ++ [o])
  | [], j, h => by simp at h
  | y :: r, 0, h => by
    simp at h
    subst h
    refine List.Perm.cons x ?_
    exact List.perm_append_comm (l₁ := [y]) (l₂ := r)
  | y :: r, j + 1, h => by
    have h1 : r[j]? = some o := by simpa using h
    exact (List.Perm.swap y x r).trans ((perm_set h1).cons y)
theorem put_words {o x : RO} (hx : x.i = o.i ∧ x.k = o.k ∧ x.p = o.p ∧ x.ws.length = o.ws.length) : ∀ {os : List RO} {j : Nat}, os[j]? = some o → putL (os.flatMap cellsO) (j * 5 + 4) [.slice x.wa x.ws.length x.wc] = some ((os.set j x).flatMap cellsO)
  | [], j, h => by simp at h
  | y :: r, 0, h => by
    simp at h
    subst h
    obtain ⟨h1, h2, h3, h4⟩ := hx
    rw [putL_split (by simp)]
    simp [h1, h2, h3, h4]
  | y :: r, j + 1, h => by
    have h1 : r[j]? = some o := by simpa using h
    have ih := put_words (os := r) hx h1
    have hj := (List.getElem?_eq_some_iff.1 h1).1
    have hl : (r.flatMap cellsO).length = r.length * 5 := objs_len
    rw [putL_split (by rw [hl]; simp; omega)] at ih
    injection ih with ih
    rw [putL_split (by simp only [List.flatMap_cons, List.length_append, hl]; simp; omega)]
    simp only [List.flatMap_cons, List.set_cons_succ]
    rw [← ih]
    rw [show (j + 1) * 5 + 4 = (cellsO y).length + (j * 5 + 4) by simp; omega, List.take_length_add_append, show (cellsO y).length + (j * 5 + 4) + [Value.slice x.wa x.ws.length x.wc].length = (cellsO y).length + (j * 5 + 4 + [Value.slice x.wa x.ws.length x.wc].length) by omega, List.drop_length_add_append]
    simp
theorem Ch.write {ws : List Int} {o : RO} {m : Nat} {word : Int} {wa : Option Addr} {wc : Nat} (hm : m < o.ws.length) : ∀ {os : List RO} {i T j : Nat}, Ch ws i os T → os[j]? = some o → Ch (ws.set (o.i + 1 + m) word) i (os.set j { o with ws := o.ws.set m word, wa := wa, wc := wc }) T
  | [], i, T, j, _, hj => by simp at hj
  | y :: r, i, T, 0, ⟨h1, h2, h3, h4, h5⟩, hj => by
    simp at hj
    subst hj
    have hb := (List.getElem?_eq_some_iff.1 ((h4 m hm).trans (List.getElem?_eq_getElem hm))).1
    refine ⟨h1, by simpa using h2, ?_, ?_, ?_⟩
    · rw [List.getElem?_set_ne (by omega)]
      simpa using h3
    · intro q hq
      have hq' : q < y.ws.length := by simpa using hq
      dsimp only
      rw [List.getElem?_set, List.getElem?_set]
      by_cases e : m = q
      · subst e
        rw [if_pos (by omega), if_pos rfl, if_pos (by omega), if_pos hm]
      · rw [if_neg (by omega), if_neg e]
        exact h4 q hq'
    · have e : (y.ws.set m word).length = y.ws.length := by simp
      show Ch _ (i + 1 + (y.ws.set m word).length) r T
      rw [e]
      exact h5.keep fun j a b => List.getElem?_set_ne (by omega)
  | y :: r, i, T, j + 1, ⟨h1, h2, h3, h4, h5⟩, hj => by
    have hj1 : r[j]? = some o := by simpa using hj
    have hle := (h5.at hj1).1.le
    refine ⟨h1, h2, ?_, ?_, Ch.write hm h5 hj1⟩
    · rw [List.getElem?_set_ne (by omega)]
      exact h3
    · intro q hq
      rw [List.getElem?_set_ne (by omega)]
      exact h4 q hq
section ops
variable {a : Option Addr} {cap : Nat} {os : List RO} {n T : Nat} {ws : List Int} {st : List Bool}
set_option maxHeartbeats 16000000 in
theorem refWrite_spec (size x f word : Int) (h : HT n T ws st) (hc : Ch ws 0 os T) (h64 : In64 word) : Does Try.prog 35 [refV size a os.length cap, .int .i64 x, .int .i64 f, .int .i64 word] (refL a cap os)
    (fun v l => ∃ a' cap' os', Ch (writeW ws st x f word) 0 os' T ∧ v = .tuple #[refV size a' os'.length cap', .int .i64 (writeC ws st x f word)] ∧ l = refL a' cap' os') := by
  have hlen := hc.len
  have htn := h.tn
  have hnb := h.nb
  refine Does.of tiok Try.func35 (by kernel_rfl) rfl Try.ntmps35 rfl ?_
  intro W fr
  refine J_rowzf P0 ?_
  rintro ⟨hl, hnn, hcc⟩
  have hR : Reads (objsZ a cap os) 5 os.length a cap (os.flatMap cellsO) := Reads.rowz hl hnn
  refine J_fact _ (fun w hs => RW_ok hs (.tail _ (.head _))) (fun ok => ?_)
  repeat' (first | (refine IsO ?_; first | refine JO_nil ?_ | (refine IsG ?_; refine G1 rfl rfl ?_) | (refine IsMove ?_; first | refine M1 rfl rfl rfl ?_ | refine M2 rfl rfl rfl ?_ | refine M5 rfl rfl rfl (fun _ => ?_) (fun _ => ?_)) | (refine IsLoad ?_; first | refine L1 rfl rfl rfl rfl ?_ | refine L2 rfl rfl rfl rfl rfl ?_) | (refine IsStore ?_; refine S1 rfl rfl rfl rfl rfl rfl rfl (fun _ => ?_)) | (refine IsBox ?_; refine N1 rfl rfl rfl rfl (fun _ => ?_)) | (refine IsAlloc ?_; refine N2 rfl rfl rfl rfl (fun _ => ?_)) | refine V1 rfl rfl rfl ?_) | (refine IsAt ?_; (with_reducible first | refine T1 ?_ | refine T2 ?_)) | (refine IsJ ?_; first | refine J_seq ?_ | refine J_region ?_ | refine J_skip ?_ | refine J_ret ?_ | (refine IsCond ?_; first | refine J_cond_t rfl ?_ | refine J_cond_f rfl ?_ | refine K1 rfl ?_ | refine K2 rfl ?_)))
  refine JO_l (OL_call [2, 2] rfl rfl rfl (Find_spec _ _ (by omega)) rfl) rfl rfl ?_; rintro _ _ ⟨_, ⟨r, hr, rfl, rfl⟩, rfl⟩
  rcases hr with ⟨j, o, rfl, hj, hi⟩ | ⟨rfl, hno⟩
  case inr =>
    have hno' := findR_none h hc hno
    have hC : writeC ws st x f word = 3 := by unfold writeC; rw [if_pos hno']
    have hW : writeW ws st x f word = ws := by unfold writeW; rw [hC]; rfl
    rw [hC, hW]
    repeat' (first | (refine IsO ?_; first | refine JO_nil ?_ | (refine IsG ?_; refine G1 rfl rfl ?_) | (refine IsMove ?_; first | refine M1 rfl rfl rfl ?_ | refine M2 rfl rfl rfl ?_ | refine M5 rfl rfl rfl (fun _ => ?_) (fun _ => ?_)) | (refine IsLoad ?_; first | refine L1 rfl rfl rfl rfl ?_ | refine L2 rfl rfl rfl rfl rfl ?_) | (refine IsStore ?_; refine S1 rfl rfl rfl rfl rfl rfl rfl (fun _ => ?_)) | (refine IsBox ?_; refine N1 rfl rfl rfl rfl (fun _ => ?_)) | (refine IsAlloc ?_; refine N2 rfl rfl rfl rfl (fun _ => ?_)) | refine V1 rfl rfl rfl ?_) | (refine IsAt ?_; (with_reducible first | refine T1 ?_ | refine T2 ?_)) | (refine IsJ ?_; first | refine J_seq ?_ | refine J_region ?_ | refine J_skip ?_ | refine J_ret ?_ | (refine IsCond ?_; first | refine J_cond_t rfl ?_ | refine J_cond_f rfl ?_ | refine K1 rfl ?_ | refine K2 rfl ?_)))
    exact At_ret rfl rfl (.agg rfl rfl rfl (by repeat (first | exact .head _ | refine .tail _ ?_)) rfl (.tmp rfl .nil)) rfl (is := [1, 1]) rfl ⟨a, cap, os, hc, rfl, rfl⟩
  obtain ⟨k0, k2, k3, k4, k5⟩ := findR_some (x := x) h hc hj
  have hjl : j < os.length := (List.getElem?_eq_some_iff.1 hj).1
  have hgb := of_decide_eq_true k3
  obtain ⟨u1, u2, u3, u4, u5⟩ := packI_un k3
  have e0 : ws.getD x.toNat 0 = packI o.k o.ws.length o.p := getD_of (by rw [show x.toNat = o.i by omega]; exact k2)
  have hob : isObj st x := by rw [← hi]; exact k0
  have hC : writeC ws st x f word = if ¬ (0 ≤ f ∧ f < (o.ws.length : Int)) then 4 else if o.k = 15 then 4 else if f < o.p ∧ leadsB ws st word = false then 5 else 0 := by
    unfold writeC
    rw [if_neg (not_not_intro hob), e0, u3, u4, u5]
  have hW : writeC ws st x f word ≠ 0 → writeW ws st x f word = ws := fun e => by unfold writeW; rw [if_neg e]
  refine JO_fact _ (fun w hs => hR.some (by omega) hs (by repeat (first | exact .head _ | refine .tail _ ?_))) ?_
  rintro ⟨b, of, rfl⟩
  repeat' (first | (refine IsO ?_; first | refine JO_nil ?_ | (refine IsG ?_; refine G1 rfl rfl ?_) | (refine IsMove ?_; first | refine M1 rfl rfl rfl ?_ | refine M2 rfl rfl rfl ?_ | refine M5 rfl rfl rfl (fun _ => ?_) (fun _ => ?_)) | (refine IsLoad ?_; first | refine L1 rfl rfl rfl rfl ?_ | refine L2 rfl rfl rfl rfl rfl ?_) | (refine IsStore ?_; refine S1 rfl rfl rfl rfl rfl rfl rfl (fun _ => ?_)) | (refine IsBox ?_; refine N1 rfl rfl rfl rfl (fun _ => ?_)) | (refine IsAlloc ?_; refine N2 rfl rfl rfl rfl (fun _ => ?_)) | refine V1 rfl rfl rfl ?_) | (refine IsAt ?_; (with_reducible first | refine T1 ?_ | refine T2 ?_)) | (refine IsJ ?_; first | refine J_seq ?_ | refine J_region ?_ | refine J_skip ?_ | refine J_ret ?_ | (refine IsCond ?_; first | refine J_cond_t rfl ?_ | refine J_cond_f rfl ?_ | refine K1 rfl ?_ | refine K2 rfl ?_)))
  refine JO_val (OV_idx (off := of + j * 5) rfl rfl rfl rfl (by omega) (by omega) (by simp)) rfl rfl ?_
  refine JO_q (OQ_readA (i := j * 5) hR (by repeat (first | exact .head _ | refine .tail _ ?_)) rfl rfl rfl (by omega) (objs_take hj)) rfl rfl ?_
  by_cases hf : 0 ≤ f ∧ f < (o.ws.length : Int)
  case neg =>
    rw [if_pos hf] at hC
    rw [hW (by rw [hC]; decide), hC]
    repeat' (first | (refine IsO ?_; first | refine JO_nil ?_ | (refine IsG ?_; refine G1 rfl rfl ?_) | (refine IsMove ?_; first | refine M1 rfl rfl rfl ?_ | refine M2 rfl rfl rfl ?_ | refine M5 rfl rfl rfl (fun _ => ?_) (fun _ => ?_)) | (refine IsLoad ?_; first | refine L1 rfl rfl rfl rfl ?_ | refine L2 rfl rfl rfl rfl rfl ?_) | (refine IsStore ?_; refine S1 rfl rfl rfl rfl rfl rfl rfl (fun _ => ?_)) | (refine IsBox ?_; refine N1 rfl rfl rfl rfl (fun _ => ?_)) | (refine IsAlloc ?_; refine N2 rfl rfl rfl rfl (fun _ => ?_)) | refine V1 rfl rfl rfl ?_) | (refine IsAt ?_; (with_reducible first | refine T1 ?_ | refine T2 ?_)) | (refine IsJ ?_; first | refine J_seq ?_ | refine J_region ?_ | refine J_skip ?_ | refine J_ret ?_ | (refine IsCond ?_; first | refine J_cond_t rfl ?_ | refine J_cond_f rfl ?_ | refine K1 rfl ?_ | refine K2 rfl ?_)))
    all_goals exact At_ret rfl rfl (.agg rfl rfl rfl (by repeat (first | exact .head _ | refine .tail _ ?_)) rfl (.tmp rfl .nil)) rfl (is := [2, 2]) rfl ⟨_, cap, os, hc, rfl, rfl⟩
  rw [if_neg (not_not_intro hf)] at hC
  obtain ⟨m, rfl⟩ := Int.eq_ofNat_of_zero_le hf.1
  have hm : m < o.ws.length := by omega
  by_cases hk : o.k = 15
  case pos =>
    rw [if_pos hk] at hC
    rw [hW (by rw [hC]; decide), hC]
    repeat' (first | (refine IsO ?_; first | refine JO_nil ?_ | (refine IsG ?_; refine G1 rfl rfl ?_) | (refine IsMove ?_; first | refine M1 rfl rfl rfl ?_ | refine M2 rfl rfl rfl ?_ | refine M5 rfl rfl rfl (fun _ => ?_) (fun _ => ?_)) | (refine IsLoad ?_; first | refine L1 rfl rfl rfl rfl ?_ | refine L2 rfl rfl rfl rfl rfl ?_) | (refine IsStore ?_; refine S1 rfl rfl rfl rfl rfl rfl rfl (fun _ => ?_)) | (refine IsBox ?_; refine N1 rfl rfl rfl rfl (fun _ => ?_)) | (refine IsAlloc ?_; refine N2 rfl rfl rfl rfl (fun _ => ?_)) | refine V1 rfl rfl rfl ?_) | (refine IsAt ?_; (with_reducible first | refine T1 ?_ | refine T2 ?_)) | (refine IsJ ?_; first | refine J_seq ?_ | refine J_region ?_ | refine J_skip ?_ | refine J_ret ?_ | (refine IsCond ?_; first | refine J_cond_t rfl ?_ | refine J_cond_f rfl ?_ | refine K1 rfl ?_ | refine K2 rfl ?_)))
    all_goals exact At_ret rfl rfl (.agg rfl rfl rfl (by repeat (first | exact .head _ | refine .tail _ ?_)) rfl (.tmp rfl .nil)) rfl (is := [2, 2]) rfl ⟨_, cap, os, hc, rfl, rfl⟩
  rw [if_neg hk] at hC
  have hcase : ((m : Int) < o.p ∧ leadsB ws st word = false) ∨ ((m : Int) < o.p ∧ leadsB ws st word = true) ∨ ¬ (m : Int) < o.p := by
    by_cases h1 : (m : Int) < o.p
    · cases leadsB ws st word
      · exact .inl ⟨h1, rfl⟩
      · exact .inr (.inl ⟨h1, rfl⟩)
    · exact .inr (.inr h1)
  rcases hcase with ⟨h1, h2⟩ | hcase
  · rw [if_pos ⟨h1, h2⟩] at hC
    rw [hW (by rw [hC]; decide), hC]
    repeat' (first | (refine IsO ?_; first | refine JO_nil ?_ | (refine IsG ?_; refine G1 rfl rfl ?_) | (refine IsMove ?_; first | refine M1 rfl rfl rfl ?_ | refine M2 rfl rfl rfl ?_ | refine M5 rfl rfl rfl (fun _ => ?_) (fun _ => ?_)) | (refine IsLoad ?_; first | refine L1 rfl rfl rfl rfl ?_ | refine L2 rfl rfl rfl rfl rfl ?_) | (refine IsStore ?_; refine S1 rfl rfl rfl rfl rfl rfl rfl (fun _ => ?_)) | (refine IsBox ?_; refine N1 rfl rfl rfl rfl (fun _ => ?_)) | (refine IsAlloc ?_; refine N2 rfl rfl rfl rfl (fun _ => ?_)) | refine V1 rfl rfl rfl ?_) | (refine IsAt ?_; (with_reducible first | refine T1 ?_ | refine T2 ?_)) | (refine IsJ ?_; first | refine J_seq ?_ | refine J_region ?_ | refine J_skip ?_ | refine J_ret ?_ | (refine IsCond ?_; first | refine J_cond_t rfl ?_ | refine J_cond_f rfl ?_ | refine K1 rfl ?_ | refine K2 rfl ?_)))
    refine JO_l (OL_call [1, 1] rfl rfl rfl (Leads_spec size word h hc h64) rfl) rfl rfl ?_; rintro _ _ ⟨_, ⟨rfl, rfl⟩, rfl⟩
    rw [h2]
    repeat' (first | (refine IsO ?_; first | refine JO_nil ?_ | (refine IsG ?_; refine G1 rfl rfl ?_) | (refine IsMove ?_; first | refine M1 rfl rfl rfl ?_ | refine M2 rfl rfl rfl ?_ | refine M5 rfl rfl rfl (fun _ => ?_) (fun _ => ?_)) | (refine IsLoad ?_; first | refine L1 rfl rfl rfl rfl ?_ | refine L2 rfl rfl rfl rfl rfl ?_) | (refine IsStore ?_; refine S1 rfl rfl rfl rfl rfl rfl rfl (fun _ => ?_)) | (refine IsBox ?_; refine N1 rfl rfl rfl rfl (fun _ => ?_)) | (refine IsAlloc ?_; refine N2 rfl rfl rfl rfl (fun _ => ?_)) | refine V1 rfl rfl rfl ?_) | (refine IsAt ?_; (with_reducible first | refine T1 ?_ | refine T2 ?_)) | (refine IsJ ?_; first | refine J_seq ?_ | refine J_region ?_ | refine J_skip ?_ | refine J_ret ?_ | (refine IsCond ?_; first | refine J_cond_t rfl ?_ | refine J_cond_f rfl ?_ | refine K1 rfl ?_ | refine K2 rfl ?_)))
    exact At_ret rfl rfl (.agg rfl rfl rfl (by repeat (first | exact .head _ | refine .tail _ ?_)) rfl (.tmp rfl .nil)) rfl (is := [1, 1]) rfl ⟨_, cap, os, hc, rfl, rfl⟩
  have hC0 : writeC ws st x m word = 0 := by
    rw [hC]
    refine if_neg ?_
    rintro ⟨h1, h2⟩
    rcases hcase with ⟨_, h3⟩ | h3
    · rw [h2] at h3; cases h3
    · exact h3 h1
  have hW0 : writeW ws st x m word = ws.set (o.i + 1 + m) word := by
    unfold writeW
    rw [if_pos hC0, show x.toNat = o.i by omega, Int.toNat_natCast]
  rw [hC0, hW0]
  clear hC hW hC0 hW0
  rcases hcase with ⟨h1, h2⟩ | h1
  case' inl =>
    repeat' (first | (refine IsO ?_; first | refine JO_nil ?_ | (refine IsG ?_; refine G1 rfl rfl ?_) | (refine IsMove ?_; first | refine M1 rfl rfl rfl ?_ | refine M2 rfl rfl rfl ?_ | refine M5 rfl rfl rfl (fun _ => ?_) (fun _ => ?_)) | (refine IsLoad ?_; first | refine L1 rfl rfl rfl rfl ?_ | refine L2 rfl rfl rfl rfl rfl ?_) | (refine IsStore ?_; refine S1 rfl rfl rfl rfl rfl rfl rfl (fun _ => ?_)) | (refine IsBox ?_; refine N1 rfl rfl rfl rfl (fun _ => ?_)) | (refine IsAlloc ?_; refine N2 rfl rfl rfl rfl (fun _ => ?_)) | refine V1 rfl rfl rfl ?_) | (refine IsAt ?_; (with_reducible first | refine T1 ?_ | refine T2 ?_)) | (refine IsJ ?_; first | refine J_seq ?_ | refine J_region ?_ | refine J_skip ?_ | refine J_ret ?_ | (refine IsCond ?_; first | refine J_cond_t rfl ?_ | refine J_cond_f rfl ?_ | refine K1 rfl ?_ | refine K2 rfl ?_)))
    refine JO_l (OL_call [1, 1] rfl rfl rfl (Leads_spec size word h hc h64) rfl) rfl rfl ?_; rintro _ _ ⟨_, ⟨rfl, rfl⟩, rfl⟩
    rw [h2]
    repeat' (first | (refine IsO ?_; first | refine JO_nil ?_ | (refine IsG ?_; refine G1 rfl rfl ?_) | (refine IsMove ?_; first | refine M1 rfl rfl rfl ?_ | refine M2 rfl rfl rfl ?_ | refine M5 rfl rfl rfl (fun _ => ?_) (fun _ => ?_)) | (refine IsLoad ?_; first | refine L1 rfl rfl rfl rfl ?_ | refine L2 rfl rfl rfl rfl rfl ?_) | (refine IsStore ?_; refine S1 rfl rfl rfl rfl rfl rfl rfl (fun _ => ?_)) | (refine IsBox ?_; refine N1 rfl rfl rfl rfl (fun _ => ?_)) | (refine IsAlloc ?_; refine N2 rfl rfl rfl rfl (fun _ => ?_)) | refine V1 rfl rfl rfl ?_) | (refine IsAt ?_; (with_reducible first | refine T1 ?_ | refine T2 ?_)) | (refine IsJ ?_; first | refine J_seq ?_ | refine J_region ?_ | refine J_skip ?_ | refine J_ret ?_ | (refine IsCond ?_; first | refine J_cond_t rfl ?_ | refine J_cond_f rfl ?_ | refine K1 rfl ?_ | refine K2 rfl ?_)))
    refine JO_hp (fun H hl => hl.pick (is := [2, 0, 0, 0, 0]) rfl) ?_
  case' inr =>
    repeat' (first | (refine IsO ?_; first | refine JO_nil ?_ | (refine IsG ?_; refine G1 rfl rfl ?_) | (refine IsMove ?_; first | refine M1 rfl rfl rfl ?_ | refine M2 rfl rfl rfl ?_ | refine M5 rfl rfl rfl (fun _ => ?_) (fun _ => ?_)) | (refine IsLoad ?_; first | refine L1 rfl rfl rfl rfl ?_ | refine L2 rfl rfl rfl rfl rfl ?_) | (refine IsStore ?_; refine S1 rfl rfl rfl rfl rfl rfl rfl (fun _ => ?_)) | (refine IsBox ?_; refine N1 rfl rfl rfl rfl (fun _ => ?_)) | (refine IsAlloc ?_; refine N2 rfl rfl rfl rfl (fun _ => ?_)) | refine V1 rfl rfl rfl ?_) | (refine IsAt ?_; (with_reducible first | refine T1 ?_ | refine T2 ?_)) | (refine IsJ ?_; first | refine J_seq ?_ | refine J_region ?_ | refine J_skip ?_ | refine J_ret ?_ | (refine IsCond ?_; first | refine J_cond_t rfl ?_ | refine J_cond_f rfl ?_ | refine K1 rfl ?_ | refine K2 rfl ?_)))
  all_goals
    refine JO_l (OL_buildSlice (cs := []) rfl rfl rfl rfl rfl rfl rfl rfl) rfl rfl ?_
    rintro _ _ ⟨bz, rfl, rfl⟩
    repeat' (first | (refine IsO ?_; first | refine JO_nil ?_ | (refine IsG ?_; refine G1 rfl rfl ?_) | (refine IsMove ?_; first | refine M1 rfl rfl rfl ?_ | refine M2 rfl rfl rfl ?_ | refine M5 rfl rfl rfl (fun _ => ?_) (fun _ => ?_)) | (refine IsLoad ?_; first | refine L1 rfl rfl rfl rfl ?_ | refine L2 rfl rfl rfl rfl rfl ?_) | (refine IsStore ?_; refine S1 rfl rfl rfl rfl rfl rfl rfl (fun _ => ?_)) | (refine IsBox ?_; refine N1 rfl rfl rfl rfl (fun _ => ?_)) | (refine IsAlloc ?_; refine N2 rfl rfl rfl rfl (fun _ => ?_)) | refine V1 rfl rfl rfl ?_) | (refine IsAt ?_; (with_reducible first | refine T1 ?_ | refine T2 ?_)) | (refine IsJ ?_; first | refine J_seq ?_ | refine J_region ?_ | refine J_skip ?_ | refine J_ret ?_ | (refine IsCond ?_; first | refine J_cond_t rfl ?_ | refine J_cond_f rfl ?_ | refine K1 rfl ?_ | refine K2 rfl ?_)))
    refine JO_l (OL_appendz (m := os.length) rfl rfl rfl rfl rfl (hR.src (by repeat (first | exact .head _ | refine .tail _ ?_))) rfl (fun _ h => by cases h) (by omega) (by omega) (by decide)) rfl rfl ?_
    rintro _ _ ⟨a1, c1, rfl, rfl⟩
    repeat' (first | (refine IsO ?_; first | refine JO_nil ?_ | (refine IsG ?_; refine G1 rfl rfl ?_) | (refine IsMove ?_; first | refine M1 rfl rfl rfl ?_ | refine M2 rfl rfl rfl ?_ | refine M5 rfl rfl rfl (fun _ => ?_) (fun _ => ?_)) | (refine IsLoad ?_; first | refine L1 rfl rfl rfl rfl ?_ | refine L2 rfl rfl rfl rfl rfl ?_) | (refine IsStore ?_; refine S1 rfl rfl rfl rfl rfl rfl rfl (fun _ => ?_)) | (refine IsBox ?_; refine N1 rfl rfl rfl rfl (fun _ => ?_)) | (refine IsAlloc ?_; refine N2 rfl rfl rfl rfl (fun _ => ?_)) | refine V1 rfl rfl rfl ?_) | (refine IsAt ?_; (with_reducible first | refine T1 ?_ | refine T2 ?_)) | (refine IsJ ?_; first | refine J_seq ?_ | refine J_region ?_ | refine J_skip ?_ | refine J_ret ?_ | (refine IsCond ?_; first | refine J_cond_t rfl ?_ | refine J_cond_f rfl ?_ | refine K1 rfl ?_ | refine K2 rfl ?_)))
    refine JO_l (OL_buildSlice (cs := []) rfl rfl rfl rfl rfl rfl rfl rfl) rfl rfl ?_
    rintro _ _ ⟨by', rfl, rfl⟩
    repeat' (first | (refine IsO ?_; first | refine JO_nil ?_ | (refine IsG ?_; refine G1 rfl rfl ?_) | (refine IsMove ?_; first | refine M1 rfl rfl rfl ?_ | refine M2 rfl rfl rfl ?_ | refine M5 rfl rfl rfl (fun _ => ?_) (fun _ => ?_)) | (refine IsLoad ?_; first | refine L1 rfl rfl rfl rfl ?_ | refine L2 rfl rfl rfl rfl rfl ?_) | (refine IsStore ?_; refine S1 rfl rfl rfl rfl rfl rfl rfl (fun _ => ?_)) | (refine IsBox ?_; refine N1 rfl rfl rfl rfl (fun _ => ?_)) | (refine IsAlloc ?_; refine N2 rfl rfl rfl rfl (fun _ => ?_)) | refine V1 rfl rfl rfl ?_) | (refine IsAt ?_; (with_reducible first | refine T1 ?_ | refine T2 ?_)) | (refine IsJ ?_; first | refine J_seq ?_ | refine J_region ?_ | refine J_skip ?_ | refine J_ret ?_ | (refine IsCond ?_; first | refine J_cond_t rfl ?_ | refine J_cond_f rfl ?_ | refine K1 rfl ?_ | refine K2 rfl ?_)))
    refine JO_l (OL_appendz (m := o.ws.length) rfl rfl rfl rfl rfl ((RW.reads (List.mem_of_getElem? hj) ok).src (by repeat (first | exact .head _ | refine .tail _ ?_))) rfl (fun _ h => by cases h) (by omega) (by omega) (by decide)) rfl rfl ?_
    rintro _ _ ⟨a3, c3, rfl, rfl⟩
    refine JO_fact _ (fun w hs => rowz_len hs (.head _)) ?_
    rintro ⟨_, hn3, _⟩
    refine JO_fact _ (fun w hs => rowz_len hs (.tail _ (.tail _ (.head _)))) ?_
    rintro ⟨_, hn1, _⟩
    refine JO_hp (fun H hl => hl.pick (is := [0, 1, 2, 3, 3, 3]) rfl) ?_
    have hR1 : Reads (objsZ a1 c1 os) 5 os.length a1 c1 (os.flatMap cellsO) := Reads.rowz objs_len hn1
    have hR3 : Reads (rowz 3 1 a3 o.ws.length c3 (intsV o.ws)) 1 o.ws.length a3 c3 (intsV o.ws) := Reads.rowz (by simp) hn3
    refine JO_fact _ (fun w hs => hR1.some (by omega) hs (.tail _ (.head _))) ?_
    rintro ⟨b1, o1, rfl⟩
    refine JO_fact _ (fun w hs => hR3.some (by omega) hs (.head _)) ?_
    rintro ⟨b3, o3, rfl⟩
    refine JO_val (OV_idx (off := o1 + j * 5) rfl rfl rfl rfl (by omega) (by omega) (by simp)) rfl rfl ?_
    repeat' (first | (refine IsO ?_; first | refine JO_nil ?_ | (refine IsG ?_; refine G1 rfl rfl ?_) | (refine IsMove ?_; first | refine M1 rfl rfl rfl ?_ | refine M2 rfl rfl rfl ?_ | refine M5 rfl rfl rfl (fun _ => ?_) (fun _ => ?_)) | (refine IsLoad ?_; first | refine L1 rfl rfl rfl rfl ?_ | refine L2 rfl rfl rfl rfl rfl ?_) | (refine IsStore ?_; refine S1 rfl rfl rfl rfl rfl rfl rfl (fun _ => ?_)) | (refine IsBox ?_; refine N1 rfl rfl rfl rfl (fun _ => ?_)) | (refine IsAlloc ?_; refine N2 rfl rfl rfl rfl (fun _ => ?_)) | refine V1 rfl rfl rfl ?_) | (refine IsAt ?_; (with_reducible first | refine T1 ?_ | refine T2 ?_)) | (refine IsJ ?_; first | refine J_seq ?_ | refine J_region ?_ | refine J_skip ?_ | refine J_ret ?_ | (refine IsCond ?_; first | refine J_cond_t rfl ?_ | refine J_cond_f rfl ?_ | refine K1 rfl ?_ | refine K2 rfl ?_)))
    refine JO_rowz (i := 1) rfl ?_ (fun h => absurd h (by omega))
    have hsl : (o.ws.set m word).length = o.ws.length := by simp
    have hput := put_words (o := o) (x := { o with ws := o.ws.set m word, wa := some ⟨b3, o3, none⟩, wc := c3 }) ⟨rfl, rfl, rfl, hsl⟩ hj
    dsimp only at hput
    rw [hsl] at hput
    refine JO_l0 (OL_storeR (k := j * 5 + 4) rfl rfl rfl rfl rfl rfl P0 hput) rfl ?_
    rintro _ _ rfl
    repeat' (first | (refine IsO ?_; first | refine JO_nil ?_ | (refine IsG ?_; refine G1 rfl rfl ?_) | (refine IsMove ?_; first | refine M1 rfl rfl rfl ?_ | refine M2 rfl rfl rfl ?_ | refine M5 rfl rfl rfl (fun _ => ?_) (fun _ => ?_)) | (refine IsLoad ?_; first | refine L1 rfl rfl rfl rfl ?_ | refine L2 rfl rfl rfl rfl rfl ?_) | (refine IsStore ?_; refine S1 rfl rfl rfl rfl rfl rfl rfl (fun _ => ?_)) | (refine IsBox ?_; refine N1 rfl rfl rfl rfl (fun _ => ?_)) | (refine IsAlloc ?_; refine N2 rfl rfl rfl rfl (fun _ => ?_)) | refine V1 rfl rfl rfl ?_) | (refine IsAt ?_; (with_reducible first | refine T1 ?_ | refine T2 ?_)) | (refine IsJ ?_; first | refine J_seq ?_ | refine J_region ?_ | refine J_skip ?_ | refine J_ret ?_ | (refine IsCond ?_; first | refine J_cond_t rfl ?_ | refine J_cond_f rfl ?_ | refine K1 rfl ?_ | refine K2 rfl ?_)))
    refine JO_val (OV_idx (off := o1 + j * 5) rfl rfl rfl rfl (by omega) (by omega) (by simp)) rfl rfl ?_
    repeat' (first | (refine IsO ?_; first | refine JO_nil ?_ | (refine IsG ?_; refine G1 rfl rfl ?_) | (refine IsMove ?_; first | refine M1 rfl rfl rfl ?_ | refine M2 rfl rfl rfl ?_ | refine M5 rfl rfl rfl (fun _ => ?_) (fun _ => ?_)) | (refine IsLoad ?_; first | refine L1 rfl rfl rfl rfl ?_ | refine L2 rfl rfl rfl rfl rfl ?_) | (refine IsStore ?_; refine S1 rfl rfl rfl rfl rfl rfl rfl (fun _ => ?_)) | (refine IsBox ?_; refine N1 rfl rfl rfl rfl (fun _ => ?_)) | (refine IsAlloc ?_; refine N2 rfl rfl rfl rfl (fun _ => ?_)) | refine V1 rfl rfl rfl ?_) | (refine IsAt ?_; (with_reducible first | refine T1 ?_ | refine T2 ?_)) | (refine IsJ ?_; first | refine J_seq ?_ | refine J_region ?_ | refine J_skip ?_ | refine J_ret ?_ | (refine IsCond ?_; first | refine J_cond_t rfl ?_ | refine J_cond_f rfl ?_ | refine K1 rfl ?_ | refine K2 rfl ?_)))
    have hjs : (os.set j { o with ws := o.ws.set m word, wa := some ⟨b3, o3, none⟩, wc := c3 })[j]? = some { o with ws := o.ws.set m word, wa := some ⟨b3, o3, none⟩, wc := c3 } := by rw [List.getElem?_set, if_pos rfl, if_pos hjl]
    have hR4 : Reads (row 47 5 (some ⟨b1, o1, none⟩) os.length c1 ((os.set j { o with ws := o.ws.set m word, wa := some ⟨b3, o3, none⟩, wc := c3 }).flatMap cellsO)) 5 os.length (some ⟨b1, o1, none⟩) c1 ((os.set j { o with ws := o.ws.set m word, wa := some ⟨b3, o3, none⟩, wc := c3 }).flatMap cellsO) := Reads.row (by rw [objs_len]; simp) hn1
    refine JO_q (OQ_read (i := j * 5 + 4) (v := .slice (some ⟨b3, o3, none⟩) o.ws.length c3) hR4 (.head _) rfl rfl (by omega) (by rw [objs_get hjs (by omega), ← hsl]; rfl)) rfl rfl ?_
    repeat' (first | (refine IsO ?_; first | refine JO_nil ?_ | (refine IsG ?_; refine G1 rfl rfl ?_) | (refine IsMove ?_; first | refine M1 rfl rfl rfl ?_ | refine M2 rfl rfl rfl ?_ | refine M5 rfl rfl rfl (fun _ => ?_) (fun _ => ?_)) | (refine IsLoad ?_; first | refine L1 rfl rfl rfl rfl ?_ | refine L2 rfl rfl rfl rfl rfl ?_) | (refine IsStore ?_; refine S1 rfl rfl rfl rfl rfl rfl rfl (fun _ => ?_)) | (refine IsBox ?_; refine N1 rfl rfl rfl rfl (fun _ => ?_)) | (refine IsAlloc ?_; refine N2 rfl rfl rfl rfl (fun _ => ?_)) | refine V1 rfl rfl rfl ?_) | (refine IsAt ?_; (with_reducible first | refine T1 ?_ | refine T2 ?_)) | (refine IsJ ?_; first | refine J_seq ?_ | refine J_region ?_ | refine J_skip ?_ | refine J_ret ?_ | (refine IsCond ?_; first | refine J_cond_t rfl ?_ | refine J_cond_f rfl ?_ | refine K1 rfl ?_ | refine K2 rfl ?_)))
    refine JO_val (OV_idx (off := o3 + m) rfl rfl rfl rfl (by omega) (by omega) (by simp)) rfl rfl ?_
    refine JO_rowz (i := 1) rfl ?_ (fun h => absurd h (by omega))
    refine JO_l0 (OL_storeR rfl rfl rfl rfl rfl rfl P0 (putL_ints word (by omega))) rfl ?_
    rintro _ _ rfl
    repeat' (first | (refine IsO ?_; first | refine JO_nil ?_ | (refine IsG ?_; refine G1 rfl rfl ?_) | (refine IsMove ?_; first | refine M1 rfl rfl rfl ?_ | refine M2 rfl rfl rfl ?_ | refine M5 rfl rfl rfl (fun _ => ?_) (fun _ => ?_)) | (refine IsLoad ?_; first | refine L1 rfl rfl rfl rfl ?_ | refine L2 rfl rfl rfl rfl rfl ?_) | (refine IsStore ?_; refine S1 rfl rfl rfl rfl rfl rfl rfl (fun _ => ?_)) | (refine IsBox ?_; refine N1 rfl rfl rfl rfl (fun _ => ?_)) | (refine IsAlloc ?_; refine N2 rfl rfl rfl rfl (fun _ => ?_)) | refine V1 rfl rfl rfl ?_) | (refine IsAt ?_; (with_reducible first | refine T1 ?_ | refine T2 ?_)) | (refine IsJ ?_; first | refine J_seq ?_ | refine J_region ?_ | refine J_skip ?_ | refine J_ret ?_ | (refine IsCond ?_; first | refine J_cond_t rfl ?_ | refine J_cond_f rfl ?_ | refine K1 rfl ?_ | refine K2 rfl ?_)))
    have e3 : (os.set j { o with ws := o.ws.set m word, wa := some ⟨b3, o3, none⟩, wc := c3 }).length = os.length := by simp
    refine At_ret' rfl rfl (.agg rfl rfl rfl (by repeat (first | exact .head _ | refine .tail _ ?_)) rfl (.tmp rfl .nil)) rfl (fun H hl => ?_) ⟨some ⟨b1, o1, none⟩, c1, os.set j { o with ws := o.ws.set m word, wa := some ⟨b3, o3, none⟩, wc := c3 }, Ch.write hm hc hj, by rw [e3]; rfl, rfl⟩
    have h1 := hl.pick (is := [2, 4, 2]) rfl
    have h2 := RW.to (news := [{ o with ws := o.ws.set m word, wa := some ⟨b3, o3, none⟩, wc := c3 }]) (os := os) (os' := os.set j { o with ws := o.ws.set m word, wa := some ⟨b3, o3, none⟩, wc := c3 }) (dr := [o]) (perm_set hj) (by
      show Stars (rowz 3 1 (some ⟨b3, o3, none⟩) (o.ws.set m word).length c3 (intsV (o.ws.set m word)) :: _) H
      rw [hsl]
      exact rowz_row h1)
    unfold refL objsZ
    rw [e3]
    exact rowz_row h2.swap
end ops
end Go.Proofs.Ytahfnbpbdnmggaa
/-
  Our own: the document's heaps (besomref01): Place.
-/
set_option linter.unusedVariables false
set_option linter.unusedSimpArgs false
namespace Go.Proofs.Ytahfnbpbdnmggaa
open Go.Sep
theorem rowO_new {bw k i : Nat} {kd pt : Int} {l : List HP} {H : PH} (h : Stars (blk bw (List.replicate k (.int .i64 0)) 3 :: l) H) : Stars (rowO ⟨i, kd, pt, List.replicate k 0, some ⟨bw, 0, none⟩, k⟩ :: l) H := by
  have h2 := rowz_row (row_full (n := k) (sz := 1) h (by simp))
  have e : List.replicate k (Value.int .i64 0) = intsV (List.replicate k 0) := by simp [intsV]
  rw [e] at h2
  show Stars (rowz 3 1 (some ⟨bw, 0, none⟩) (List.replicate k (0 : Int)).length k (intsV (List.replicate k 0)) :: l) H
  rw [List.length_replicate]
  exact h2
section ops
variable {a : Option Addr} {cap : Nat} {os : List RO} {n T : Nat} {ws : List Int}
set_option maxHeartbeats 8000000 in
theorem refPlace_ok (kd pt : Int) (k : Nat) (hc : Ch ws 0 os T) (hT : T ≤ n) (hn : n ≤ 65536) (hg : goodB kd k pt = true) (hf : T + 1 + k ≤ n) : Does Try.prog 32 [refV n a os.length cap, headV kd k pt] (refL a cap os)
    (fun v l => ∃ a' cap' wa wc, v = .tuple #[refV n a' (os ++ [(⟨T, kd, pt, List.replicate k 0, wa, wc⟩ : RO)]).length cap', .int .i64 T, .int .i64 0] ∧ l = refL a' cap' (os ++ [⟨T, kd, pt, List.replicate k 0, wa, wc⟩])) := by
  have hgb := of_decide_eq_true hg
  have hlen := hc.len
  refine Does.of tiok Try.func32 (by kernel_rfl) rfl Try.ntmps32 rfl ?_
  intro W fr
  refine J_rowzf P0 ?_
  rintro ⟨hl, hnn, hcc⟩
  have hR : Reads (objsZ a cap os) 5 os.length a cap (os.flatMap cellsO) := Reads.rowz hl hnn
  repeat' (first | (refine IsO ?_; first | refine JO_nil ?_ | (refine IsBin ?_; refine B1 rfl rfl rfl rfl ?_) | (refine IsLoad ?_; first | refine L1 rfl rfl rfl rfl ?_ | refine L2 rfl rfl rfl rfl rfl ?_) | (refine IsStore ?_; refine S1 rfl rfl rfl rfl rfl rfl rfl (fun _ => ?_)) | (refine IsBox ?_; refine N1 rfl rfl rfl rfl (fun _ => ?_)) | (refine IsAlloc ?_; refine N2 rfl rfl rfl rfl (fun _ => ?_)) | refine V1 rfl rfl rfl ?_) | (refine IsAt ?_; (with_reducible refine T1 ?_)) | (refine IsJ ?_; first | refine J_seq ?_ | refine J_region ?_ | refine J_skip ?_ | refine J_ret ?_ | (refine IsCond ?_; first | refine J_cond_f rfl ?_ | refine K2 rfl ?_)))
  rename_i b2 b3 b4
  refine JO_l (OL_call [] rfl rfl rfl (refGood_spec kd k pt) rfl) rfl rfl ?_; rintro _ _ ⟨_, ⟨rfl, rfl⟩, rfl⟩
  rw [hg]
  repeat' (first | (refine IsO ?_; first | refine JO_nil ?_ | (refine IsBin ?_; refine B1 rfl rfl rfl rfl ?_) | (refine IsLoad ?_; first | refine L1 rfl rfl rfl rfl ?_ | refine L2 rfl rfl rfl rfl rfl ?_) | (refine IsStore ?_; refine S1 rfl rfl rfl rfl rfl rfl rfl (fun _ => ?_)) | (refine IsBox ?_; refine N1 rfl rfl rfl rfl (fun _ => ?_)) | (refine IsAlloc ?_; refine N2 rfl rfl rfl rfl (fun _ => ?_)) | refine V1 rfl rfl rfl ?_) | (refine IsAt ?_; (with_reducible refine T1 ?_)) | (refine IsJ ?_; first | refine J_seq ?_ | refine J_region ?_ | refine J_skip ?_ | refine J_ret ?_ | (refine IsCond ?_; first | refine J_cond_f rfl ?_ | refine K2 rfl ?_)))
  refine JO_l (OL_call [3, 3] rfl rfl rfl (Top_spec _ hc (by omega)) rfl) rfl rfl ?_; rintro _ _ ⟨_, ⟨rfl, rfl⟩, rfl⟩
  repeat' (first | (refine IsO ?_; first | refine JO_nil ?_ | (refine IsBin ?_; refine B1 rfl rfl rfl rfl ?_) | (refine IsLoad ?_; first | refine L1 rfl rfl rfl rfl ?_ | refine L2 rfl rfl rfl rfl rfl ?_) | (refine IsStore ?_; refine S1 rfl rfl rfl rfl rfl rfl rfl (fun _ => ?_)) | (refine IsBox ?_; refine N1 rfl rfl rfl rfl (fun _ => ?_)) | (refine IsAlloc ?_; refine N2 rfl rfl rfl rfl (fun _ => ?_)) | refine V1 rfl rfl rfl ?_) | (refine IsAt ?_; (with_reducible refine T1 ?_)) | (refine IsJ ?_; first | refine J_seq ?_ | refine J_region ?_ | refine J_skip ?_ | refine J_ret ?_ | (refine IsCond ?_; first | refine J_cond_f rfl ?_ | refine K2 rfl ?_)))
  let H2 : HP := blk b2 [.int .i64 n, .slice a os.length cap] 33
  let H3 : HP := blk b3 [.int .i64 kd, .int .i64 k, .int .i64 pt] 45
  let H4 : HP := blk b4 [.int .i64 0, .slice none 0 0] 33
  let PT : Plan := .l1 11 (.q 12 (.l1 13 .fin))
  let P038 : Plan := .l1 10 PT
  let P0810 : Plan := .l1 3 PT
  let P08 : Plan := .l2 3 P038 10 P0810
  refine J_plan [H2, H3] (fun H hl => hl.pick (is := [4, 3]) rfl) [2, 0, 5, 2, 0, 5, 0, 5, 2, 0, 2, 2, 0, 6]
    (.q 1 (.q 2 (.q 4 (.q 5 (.q 6 (.q 7 (.l2 0 (.l2 3 (.l1 8 (.q 9 P038)) 8 (.q 9 P08)) 8 (.q 9 (.l2 0 P08 10 (.l1 0 P0810)))))))))) (by kernel_rfl) (by kernel_rfl) ?_
  repeat' (refine IsF ?_; first | (refine JF_fin ?_; refine At_np ?_) | (refine JF_op rfl ?_; refine FsO ?_; first | (refine FsLoad ?_; first | refine FL1k rfl rfl rfl rfl rfl ?_ | refine FL2k rfl rfl rfl rfl rfl rfl ?_) | (refine FsBuild ?_; refine FU1 rfl rfl rfl rfl rfl rfl ?_) | refine FV1 rfl rfl rfl ?_))
  let OC : Nat → List Value := fun bw => [.int .i64 T, .int .i64 kd, .int .i64 k, .int .i64 pt, .slice (some ⟨bw, 0, none⟩) k k]
  let WB : Nat → HP := fun bw => blk bw (List.replicate k (.int .i64 0)) 3
  refine JF_cut (α := Option Addr × Nat × Nat × Nat) PT
    (fun z => [(2, ptr b2 0), (3, ptr b3 0), (4, ptr b4 0), (7, .int .i64 T), (26, .slice z.1 os.length z.2.1), (33, .slice (some ⟨z.2.2.1, 0, none⟩) 1 1)])
    (fun z => [objsZ z.1 z.2.1 os, blk z.2.2.1 (OC z.2.2.2) 47, WB z.2.2.2, H2, H3, H4, RW os]) (fun tail => ?_) ?_
  · refine JF_cut (α := Option Addr × Nat × Nat) P038
      (fun z => [(2, ptr b2 0), (3, ptr b3 0), (4, ptr b4 0), (7, .int .i64 T), (26, .slice z.1 os.length z.2.1), (32, .agg (OC z.2.2).toArray)])
      (fun z => [objsZ z.1 z.2.1 os, WB z.2.2, H2, H3, H4, RW os]) (fun s038 => ?_) ?_
    · refine JF_cut (α := Nat × Nat × Nat) P0810
        (fun z => [(2, ptr b2 0), (3, ptr b3 0), (4, ptr b4 0), (7, .int .i64 T), (23, .slice (some ⟨z.1, 0, none⟩) 0 0), (25, .slice a os.length cap), (33, .slice (some ⟨z.2.1, 0, none⟩) 1 1)])
        (fun z => [blk z.1 [] 47, blk z.2.1 (OC z.2.2) 47, WB z.2.2, H2, H3, H4, objsZ a cap os, RW os]) (fun s0810 => ?_) ?_
      · refine JF_cut (α := Nat × Nat) P08
          (fun z => [(2, ptr b2 0), (3, ptr b3 0), (4, ptr b4 0), (7, .int .i64 T), (23, .slice (some ⟨z.1, 0, none⟩) 0 0), (25, .slice a os.length cap), (32, .agg (OC z.2).toArray)])
          (fun z => [blk z.1 [] 47, WB z.2, H2, H3, H4, objsZ a cap os, RW os]) (fun s08 => ?_) ?_
        · refine JF_l2 ?_ ?_
          · refine JFO_l rfl (OL_buildSlice (cs := []) rfl rfl rfl rfl rfl rfl rfl rfl) rfl rfl (.inr ?_) ?_
            · rintro _ _ ⟨_, rfl, rfl⟩ H hl
              exact hl.pick (is := [5, 4]) rfl
            rintro _ _ ⟨bz, rfl, rfl⟩ _
            refine JF_l2 ?_ ?_
            · refine JFO_l rfl (OL_appendz (m := os.length) rfl rfl rfl rfl rfl (hR.src (by repeat (first | exact .head _ | refine .tail _ ?_))) rfl (fun _ h => by cases h) (by omega) (by omega) (by decide)) rfl rfl (.inr ?_) ?_
              · rintro _ _ ⟨_, _, rfl, rfl⟩ H hl
                exact hl.pick (is := [6, 5]) rfl
              rintro _ _ ⟨a1, c1, rfl, rfl⟩ _
              refine JF_l1 (JFO_l rfl (OL_makeN rfl rfl rfl rfl (by omega) (by omega)) rfl rfl (.inr ?_) ?_)
              · rintro _ _ ⟨_, rfl, rfl⟩ H hl
                exact hl.pick (is := [7, 6]) rfl
              rintro _ _ ⟨bw, rfl, rfl⟩ _
              repeat' (refine IsF ?_; first | (refine JF_fin ?_; refine At_np ?_) | (refine JF_op rfl ?_; refine FsO ?_; first | (refine FsLoad ?_; first | refine FL1k rfl rfl rfl rfl rfl ?_ | refine FL2k rfl rfl rfl rfl rfl rfl ?_) | (refine FsBuild ?_; refine FU1 rfl rfl rfl rfl rfl rfl ?_) | refine FV1 rfl rfl rfl ?_))
              exact JF_to (by repeat (first | exact True.intro | refine And.intro rfl ?_)) (fun H hl => hl.pick (is := [1, 0, 5, 4, 3, 2]) rfl) (fun H hl => hl.pick (is := [2, 2]) rfl) (s038 (a1, c1, bw))
            · refine JFO_l rfl (OL_makeN rfl rfl rfl rfl (by omega) (by omega)) rfl rfl (.inr ?_) ?_
              · rintro _ _ ⟨_, rfl, rfl⟩ H hl
                exact hl.pick (is := [6, 5]) rfl
              rintro _ _ ⟨bw, rfl, rfl⟩ _
              repeat' (refine IsF ?_; first | (refine JF_fin ?_; refine At_np ?_) | (refine JF_op rfl ?_; refine FsO ?_; first | (refine FsLoad ?_; first | refine FL1k rfl rfl rfl rfl rfl ?_ | refine FL2k rfl rfl rfl rfl rfl rfl ?_) | (refine FsBuild ?_; refine FU1 rfl rfl rfl rfl rfl rfl ?_) | refine FV1 rfl rfl rfl ?_))
              exact JF_to (by repeat (first | exact True.intro | refine And.intro rfl ?_)) (fun H hl => hl.pick (is := [1, 0, 4, 3, 2, 0, 0]) rfl) (fun H hl => hl.pick (is := [2, 2]) rfl) (s08 (bz, bw))
          · refine JFO_l rfl (OL_makeN rfl rfl rfl rfl (by omega) (by omega)) rfl rfl (.inr ?_) ?_
            · rintro _ _ ⟨_, rfl, rfl⟩ H hl
              exact hl.pick (is := [5, 4]) rfl
            rintro _ _ ⟨bw, rfl, rfl⟩ _
            repeat' (refine IsF ?_; first | (refine JF_fin ?_; refine At_np ?_) | (refine JF_op rfl ?_; refine FsO ?_; first | (refine FsLoad ?_; first | refine FL1k rfl rfl rfl rfl rfl ?_ | refine FL2k rfl rfl rfl rfl rfl rfl ?_) | (refine FsBuild ?_; refine FU1 rfl rfl rfl rfl rfl rfl ?_) | refine FV1 rfl rfl rfl ?_))
            refine JF_l2 ?_ ?_
            · refine JFO_l rfl (OL_buildSlice (cs := []) rfl rfl rfl rfl rfl rfl rfl rfl) rfl rfl (.inr ?_) ?_
              · rintro _ _ ⟨_, rfl, rfl⟩ H hl
                exact hl.pick (is := [6, 5]) rfl
              rintro _ _ ⟨bz, rfl, rfl⟩ _
              exact JF_to (by repeat (first | exact True.intro | refine And.intro rfl ?_)) (fun H hl => hl.pick (is := [0, 0, 4, 3, 2, 0, 0]) rfl) (fun H hl => hl.pick (is := [2, 2]) rfl) (s08 (bz, bw))
            · refine JFO_l rfl (OL_buildSlice (cs := OC bw) rfl rfl rfl rfl rfl rfl rfl rfl) rfl rfl (.inr ?_) ?_
              · rintro _ _ ⟨_, rfl, rfl⟩ H hl
                exact hl.pick (is := [6, 5]) rfl
              rintro _ _ ⟨bb, rfl, rfl⟩ _
              refine JF_l1 (JFO_l rfl (OL_buildSlice (cs := []) rfl rfl rfl rfl rfl rfl rfl rfl) rfl rfl (.inr ?_) ?_)
              · rintro _ _ ⟨_, rfl, rfl⟩ H hl
                exact hl.pick (is := [7, 6]) rfl
              rintro _ _ ⟨bz, rfl, rfl⟩ _
              exact JF_to (by repeat (first | exact True.intro | refine And.intro rfl ?_)) (fun H hl => hl.pick (is := [0, 0, 0, 4, 3, 2, 0, 0]) rfl) (fun H hl => hl.pick (is := [3, 3]) rfl) (s0810 (bz, bb, bw))
        · rintro ⟨bz, bw⟩
          refine JF_l2 ?_ ?_
          · refine JFO_l rfl (OL_appendz (m := os.length) rfl rfl rfl rfl rfl (hR.src (by repeat (first | exact .head _ | refine .tail _ ?_))) rfl (fun _ h => by cases h) (by omega) (by omega) (by decide)) rfl rfl (.inr ?_) ?_
            · rintro _ _ ⟨_, _, rfl, rfl⟩ H hl
              exact hl.pick (is := [3, 3]) rfl
            rintro _ _ ⟨a1, c1, rfl, rfl⟩ _
            exact JF_to (by repeat (first | exact True.intro | refine And.intro rfl ?_)) (fun H hl => hl.pick (is := [0, 1, 1, 1, 1, 2]) rfl) (fun H hl => hl.pick (is := [2, 2]) rfl) (s038 (a1, c1, bw))
          · refine JFO_l rfl (OL_buildSlice (cs := OC bw) rfl rfl rfl rfl rfl rfl rfl rfl) rfl rfl (.inr ?_) ?_
            · rintro _ _ ⟨_, rfl, rfl⟩ H hl
              exact hl.pick (is := [3, 3]) rfl
            rintro _ _ ⟨bb, rfl, rfl⟩ _
            exact JF_to (by repeat (first | exact True.intro | refine And.intro rfl ?_)) (fun H hl => hl.pick (is := [1, 0, 0, 0, 0, 0, 0, 0]) rfl) (fun H hl => hl.pick (is := [3, 3]) rfl) (s0810 (bz, bb, bw))
      · rintro ⟨bz, bb, bw⟩
        refine JF_l1 (JFO_l rfl (OL_appendz (m := os.length) rfl rfl rfl rfl rfl (hR.src (by repeat (first | exact .head _ | refine .tail _ ?_))) rfl (fun _ h => by cases h) (by omega) (by omega) (by decide)) rfl rfl (.inr ?_) ?_)
        · rintro _ _ ⟨_, _, rfl, rfl⟩ H hl
          exact hl.pick (is := [4, 4]) rfl
        rintro _ _ ⟨a1, c1, rfl, rfl⟩ _
        exact JF_to (by repeat (first | exact True.intro | refine And.intro rfl ?_)) (fun H hl => hl.pick (is := [0, 1, 1, 1, 1, 1, 2]) rfl) (fun H hl => hl.pick (is := [3, 3]) rfl) (tail (a1, c1, bb, bw))
    · rintro ⟨a1, c1, bw⟩
      refine JF_l1 (JFO_l rfl (OL_buildSlice (cs := OC bw) rfl rfl rfl rfl rfl rfl rfl rfl) rfl rfl (.inr ?_) ?_)
      · rintro _ _ ⟨_, rfl, rfl⟩ H hl
        exact hl.pick (is := [3, 3]) rfl
      rintro _ _ ⟨bb, rfl, rfl⟩ _
      exact JF_to (by repeat (first | exact True.intro | refine And.intro rfl ?_)) (fun H hl => hl.pick (is := [1, 0, 0, 0, 0, 0, 0]) rfl) (fun H hl => hl.pick (is := [3, 3]) rfl) (tail (a1, c1, bb, bw))
  · rintro ⟨a1, c1, bb, bw⟩
    refine JF_l1 (JFO_l rfl (OL_appendr (m := 1) rfl rfl rfl rfl rfl P0 ((Reads.blk rfl).src (.tail _ (.head _))) rfl rfl (fun _ h => by cases h) (by omega) (by omega) (by decide)) rfl rfl (.inr ?_) ?_)
    · rintro _ _ ⟨_, _, rfl, rfl⟩ H hl
      exact hl.pick (is := [3, 3]) rfl
    rintro _ _ ⟨a2, c2, rfl, rfl⟩ _
    repeat' (refine IsF ?_; first | (refine JF_fin ?_; refine At_np ?_) | (refine JF_op rfl ?_; refine FsO ?_; first | (refine FsLoad ?_; first | refine FL1k rfl rfl rfl rfl rfl ?_ | refine FL2k rfl rfl rfl rfl rfl rfl ?_) | (refine FsBuild ?_; refine FU1 rfl rfl rfl rfl rfl rfl ?_) | refine FV1 rfl rfl rfl ?_))
    refine JF_l1 (JFO_l0 rfl (OL_store rfl rfl rfl rfl rfl rfl (by first | exact P0 | exact P1 | exact P2 | exact P3 | exact P4 | exact P5 | exact P6 | exact P7) (by rfl)) rfl (.inl rfl) ?_)
    rintro _ _ rfl _
    repeat' (refine IsF ?_; first | (refine JF_fin ?_; refine At_np ?_) | (refine JF_op rfl ?_; refine FsO ?_; first | (refine FsLoad ?_; first | refine FL1k rfl rfl rfl rfl rfl ?_ | refine FL2k rfl rfl rfl rfl rfl rfl ?_) | (refine FsBuild ?_; refine FU1 rfl rfl rfl rfl rfl rfl ?_) | refine FV1 rfl rfl rfl ?_))
    repeat' (first | (refine IsO ?_; first | refine JO_nil ?_ | (refine IsBin ?_; refine B1 rfl rfl rfl rfl ?_) | (refine IsLoad ?_; first | refine L1 rfl rfl rfl rfl ?_ | refine L2 rfl rfl rfl rfl rfl ?_) | (refine IsStore ?_; refine S1 rfl rfl rfl rfl rfl rfl rfl (fun _ => ?_)) | (refine IsBox ?_; refine N1 rfl rfl rfl rfl (fun _ => ?_)) | (refine IsAlloc ?_; refine N2 rfl rfl rfl rfl (fun _ => ?_)) | refine V1 rfl rfl rfl ?_) | (refine IsAt ?_; (with_reducible refine T1 ?_)) | (refine IsJ ?_; first | refine J_seq ?_ | refine J_region ?_ | refine J_skip ?_ | refine J_ret ?_ | (refine IsCond ?_; first | refine J_cond_f rfl ?_ | refine K2 rfl ?_)))
    have e3 : (os ++ [(⟨T, kd, pt, List.replicate k 0, some ⟨bw, 0, none⟩, k⟩ : RO)]).length = os.length + 1 := by simp
    have e2 : (os ++ [(⟨T, kd, pt, List.replicate k 0, some ⟨bw, 0, none⟩, k⟩ : RO)]).flatMap cellsO = os.flatMap cellsO ++ OC bw := by simp [OC]
    refine At_ret' rfl rfl (.agg rfl rfl rfl (by repeat (first | exact .head _ | refine .tail _ ?_)) rfl (.tmp rfl (.tmp rfl .nil))) rfl (fun H hl => ?_) ⟨a2, c2, some ⟨bw, 0, none⟩, k, ?_, rfl⟩
    · have h1 := hl.pick (is := [4, 5, 2]) rfl
      have h2 := rowO_new (i := T) (kd := kd) (pt := pt) h1
      have h3 := RW.to (news := [⟨T, kd, pt, List.replicate k 0, some ⟨bw, 0, none⟩, k⟩]) (os := os) (os' := os ++ [⟨T, kd, pt, List.replicate k 0, some ⟨bw, 0, none⟩, k⟩]) (dr := []) (by rw [List.append_nil]; exact List.perm_append_comm) h2
      unfold refL objsZ
      rw [e2, e3]
      exact h3.swap
    · rw [e3]; rfl
end ops
end Go.Proofs.Ytahfnbpbdnmggaa
/-
  Our own: the document's heaps (besomref01): Split.
-/
set_option linter.unusedVariables false
set_option linter.unusedSimpArgs false
namespace Go.Sep
end Go.Sep
namespace Go.Proofs.Ytahfnbpbdnmggaa
open Go.Sep
/-- Objects from i on in words where the ones from there on are told elsewhere. -/
theorem Ch.put {ws ws' : List Int} {os : List RO} {j T : Nat} {o : RO} {mid : List RO} (hc : Ch ws 0 os T) (hj : os[j]? = some o) (hk : ∀ q : Nat, (q < o.i ∨ o.i + 1 + o.ws.length ≤ q) → ws'[q]? = ws[q]?) (hm : Ch ws' o.i mid (o.i + 1 + o.ws.length)) : Ch ws' 0 (os.take j ++ mid ++ os.drop (j + 1)) T := by
  obtain ⟨h1, h2⟩ := hc.at hj
  refine Ch.app.2 ⟨_, Ch.app.2 ⟨_, h1.keep fun q _ b => hk q (.inl b), hm⟩, h2.2.2.2.2.keep fun q b _ => hk q (.inr b)⟩
theorem zrep {k j : Nat} (h : j < k) : (List.replicate k (0 : Int))[j]? = some 0 := by rw [List.getElem?_replicate, if_pos h]
section ops
variable {a : Option Addr} {cap : Nat} {os : List RO} {n T : Nat} {ws : List Int} {st : List Bool}
end ops
end Go.Proofs.Ytahfnbpbdnmggaa
/-
  Our own: graphs (besomlaw11): Few, place.
-/
set_option linter.unusedVariables false
set_option linter.unusedSimpArgs false
namespace Go.Proofs.Ytahfnbpbdnmggaa
open Go.Sep
def fewB (g : GG) : Bool := (g.ns.all fun y => decide (y.es.length ≤ 10)) && (decide (g.ns.length ≤ 14) && decide (g.rs.length ≤ 14))
theorem node_take {ns : List ND} {i : Nat} {y : ND} (h : ns[i]? = some y) : takeL (ns.flatMap cellsN) (i * 3) 3 = some (cellsN y) := flat_take (f := cellsN) (fun _ _ => rfl) h
theorem few_all {ns : List ND} (hj : ∀ j y, j < ns.length → ns[j]? = some y → y.es.length ≤ 10) : (ns.all fun y => decide (y.es.length ≤ 10)) = true := by
  rw [List.all_eq_true]
  intro y hy
  obtain ⟨j, hy⟩ := List.getElem?_of_mem hy
  exact decide_eq_true (hj j y (List.getElem?_eq_some_iff.1 hy).1 hy)
set_option maxHeartbeats 4000000 in
theorem Few_spec {R : HP} {g : GG} (h : GOk R g) : Does Try.prog 8 [gV g] [R] (fun v l => v = .bool (fewB g) ∧ l = [R]) := by
  obtain ⟨ns, na, nc, rs, ra, rc⟩ := g
  obtain ⟨hnd, hrn, hnl, hrr, hrb, hrl⟩ := h
  dsimp only at hnd hrn hnl hrr hrb hrl
  refine Does.of tiok Try.func8 (by kernel_rfl) rfl Try.ntmps8 rfl ?_
  intro W fr
  repeat' (first | (refine IsO ?_; first | refine JO_nil ?_ | (refine IsG ?_; refine G1 rfl rfl ?_) | (refine IsMove ?_; refine M5 rfl rfl rfl (fun _ => ?_) (fun _ => ?_)) | (refine IsBin ?_; refine B1 rfl rfl rfl rfl ?_) | (refine IsLoad ?_; refine L1 rfl rfl rfl rfl ?_) | (refine IsStore ?_; refine S1 rfl rfl rfl rfl rfl rfl rfl (fun _ => ?_)) | (refine IsBox ?_; refine N1 rfl rfl rfl rfl (fun _ => ?_)) | (refine IsAlloc ?_; refine N2 rfl rfl rfl rfl (fun _ => ?_)) | refine V1 rfl rfl rfl ?_) | (refine IsAt ?_; first | (with_reducible first | refine T1 ?_ | refine T2 ?_ | refine T3 ?_ | refine T4 ?_ | refine T5 ?_ | refine T6 ?_ | refine T7 ?_) | ((with_reducible show At _ (PBlock _ _ (Exit.exit _)) _ _); refine At_block_hit ?_)) | (refine IsJ ?_; first | refine J_seq ?_ | refine J_region ?_ | refine J_block ?_ | refine J_skip ?_ | refine J_ret ?_ | refine J_exit ?_ | (refine IsCond ?_; refine J_cb rfl (fun _ => ?_) (fun _ => ?_))))
  rename_i bg
  refine J_loop (α := Nat) (fun i => i ≤ ns.length ∧ ∀ j y, j < i → ns[j]? = some y → y.es.length ≤ 10)
    (fun i => [(1, ptr bg 0), (2, .bool false), (6, .slice na ns.length nc), (7, .int .i64 ns.length), (8, .int .i64 i)])
    (fun i => [blk bg [.slice na ns.length nc, .slice ra rs.length rc] 25, R]) (fun i => ns.length - i) 0 ⟨Nat.zero_le _, fun j y hj => absurd hj (Nat.not_lt_zero _)⟩ (by repeat (first | exact True.intro | refine And.intro rfl ?_)) (fun H hl => hl) ?_
  rintro i ⟨hi, hj⟩
  repeat' (first | (refine IsO ?_; first | refine JO_nil ?_ | (refine IsG ?_; refine G1 rfl rfl ?_) | (refine IsMove ?_; refine M5 rfl rfl rfl (fun _ => ?_) (fun _ => ?_)) | (refine IsBin ?_; refine B1 rfl rfl rfl rfl ?_) | (refine IsLoad ?_; refine L1 rfl rfl rfl rfl ?_) | (refine IsStore ?_; refine S1 rfl rfl rfl rfl rfl rfl rfl (fun _ => ?_)) | (refine IsBox ?_; refine N1 rfl rfl rfl rfl (fun _ => ?_)) | (refine IsAlloc ?_; refine N2 rfl rfl rfl rfl (fun _ => ?_)) | refine V1 rfl rfl rfl ?_) | (refine IsAt ?_; first | (with_reducible first | refine T1 ?_ | refine T2 ?_ | refine T3 ?_ | refine T4 ?_ | refine T5 ?_ | refine T6 ?_ | refine T7 ?_) | ((with_reducible show At _ (PBlock _ _ (Exit.exit _)) _ _); refine At_block_hit ?_)) | (refine IsJ ?_; first | refine J_seq ?_ | refine J_region ?_ | refine J_block ?_ | refine J_skip ?_ | refine J_ret ?_ | refine J_exit ?_ | (refine IsCond ?_; refine J_cb rfl (fun _ => ?_) (fun _ => ?_))))
  · rename_i hlt
    obtain ⟨y, hy⟩ : ∃ y, ns[i]? = some y := ⟨ns[i]'(by omega), List.getElem?_eq_getElem _⟩
    refine JO_fact _ (fun w hs => hrn.some (by omega) hs (by repeat (first | exact .head _ | refine .tail _ ?_))) ?_
    rintro ⟨b, o, rfl⟩
    refine JO_val (OV_idx (off := o + i * 3) rfl rfl rfl rfl (by omega) (by omega) (by simp)) rfl rfl ?_
    refine JO_q (OQ_readA hrn (by repeat (first | exact .head _ | refine .tail _ ?_)) rfl rfl rfl (by omega) (node_take hy)) rfl rfl ?_
    repeat' (first | (refine IsO ?_; first | refine JO_nil ?_ | (refine IsG ?_; refine G1 rfl rfl ?_) | (refine IsMove ?_; refine M5 rfl rfl rfl (fun _ => ?_) (fun _ => ?_)) | (refine IsBin ?_; refine B1 rfl rfl rfl rfl ?_) | (refine IsLoad ?_; refine L1 rfl rfl rfl rfl ?_) | (refine IsStore ?_; refine S1 rfl rfl rfl rfl rfl rfl rfl (fun _ => ?_)) | (refine IsBox ?_; refine N1 rfl rfl rfl rfl (fun _ => ?_)) | (refine IsAlloc ?_; refine N2 rfl rfl rfl rfl (fun _ => ?_)) | refine V1 rfl rfl rfl ?_) | (refine IsAt ?_; first | (with_reducible first | refine T1 ?_ | refine T2 ?_ | refine T3 ?_ | refine T4 ?_ | refine T5 ?_ | refine T6 ?_ | refine T7 ?_) | ((with_reducible show At _ (PBlock _ _ (Exit.exit _)) _ _); refine At_block_hit ?_)) | (refine IsJ ?_; first | refine J_seq ?_ | refine J_region ?_ | refine J_block ?_ | refine J_skip ?_ | refine J_ret ?_ | refine J_exit ?_ | (refine IsCond ?_; refine J_cb rfl (fun _ => ?_) (fun _ => ?_))))
    · rename_i h10
      refine At_ret rfl rfl (.tmp rfl .nil) rfl (is := [2]) rfl ⟨?_, rfl⟩
      unfold fewB
      rw [show (ns.all fun y => decide (y.es.length ≤ 10)) = false from by
        rw [List.all_eq_false]
        exact ⟨y, List.mem_of_getElem? hy, by simp; omega⟩]
      rfl
    · rename_i h10
      refine At_round (i + 1) (by show ns.length - (i + 1) < ns.length - i; omega) ⟨by omega, fun j z hj2 hz => ?_⟩ (by repeat (first | exact True.intro | refine And.intro rfl ?_)) (fun H hl => hl.tail)
      by_cases e : j = i
      · subst e; rw [hy] at hz; injection hz with hz; subst hz; omega
      · exact hj j z (by omega) hz
  · rename_i _ h1
    obtain rfl : i = ns.length := by omega
    refine At_ret rfl rfl (.tmp rfl .nil) rfl (is := [1]) rfl ⟨congrArg Value.bool ?_, rfl⟩
    have hA := few_all hj
    unfold fewB
    dsimp only
    rw [hA, decide_eq_true (show ns.length ≤ 14 by omega), Bool.true_and, Bool.true_and]
    exact decide_eq_decide.2 (by omega)
  · rename_i _ h1
    obtain rfl : i = ns.length := by omega
    refine At_ret rfl rfl (.tmp rfl .nil) rfl (is := [1]) rfl ⟨congrArg Value.bool ?_, rfl⟩
    have hA := few_all hj
    unfold fewB
    dsimp only
    rw [decide_eq_false (show ¬ ns.length ≤ 14 by omega), Bool.false_and, Bool.and_false]
/-- A reference to the place of a number. -/
def plcI (at_ : List Int) (z : Int) : Int := if z % ((at_.length : Int) + 1) = at_.length then 0 else 1 + at_.getD (z % ((at_.length : Int) + 1)).toNat 0
theorem place11_spec {R : HP} {a : Option Addr} {cap : Nat} {at_ : List Int} (z : Int) (h0 : 0 ≤ z) (h1 : z ≤ 255) (hl : at_.length ≤ 65536) (hb : ∀ q ∈ at_, 0 ≤ q ∧ q ≤ 65536) (hR : Reads R 1 at_.length a cap (intsV at_)) :
    Does Try.prog 34 [.slice a at_.length cap, .int .u8 z] [R] (fun v l => v = .int .i64 (plcI at_ z) ∧ l = [R]) := by
  refine Does.of tiok Try.func34 (by kernel_rfl) rfl Try.ntmps34 rfl ?_
  intro W fr
  have m0 : 0 ≤ z % ((at_.length : Int) + 1) := Int.emod_nonneg _ (by omega)
  have m1 : z % ((at_.length : Int) + 1) < (at_.length : Int) + 1 := Int.emod_lt_of_pos _ (by omega)
  unfold plcI
  by_cases he : z % ((at_.length : Int) + 1) = at_.length
  · rw [if_pos he]
    repeat' (first | (refine IsO ?_; first | refine JO_nil ?_ | (refine IsBin ?_; first | refine B1 rfl rfl rfl rfl ?_ | refine B5 rfl rfl rfl rfl ?_) | (refine IsConv ?_; refine C1 rfl rfl rfl rfl rfl ?_) | refine V1 rfl rfl rfl ?_) | (refine IsAt ?_; (with_reducible first | refine T1 ?_ | refine T2 ?_)) | (refine IsJ ?_; first | refine J_seq ?_ | refine J_region ?_ | refine J_skip ?_ | refine J_ret ?_ | (refine IsCond ?_; first | refine K1 rfl ?_ | refine K2 rfl ?_)))
    exact At_ret rfl rfl (.tmp rfl .nil) rfl (is := [0]) rfl ⟨rfl, rfl⟩
  · rw [if_neg he]
    repeat' (first | (refine IsO ?_; first | refine JO_nil ?_ | (refine IsBin ?_; first | refine B1 rfl rfl rfl rfl ?_ | refine B5 rfl rfl rfl rfl ?_) | (refine IsConv ?_; refine C1 rfl rfl rfl rfl rfl ?_) | refine V1 rfl rfl rfl ?_) | (refine IsAt ?_; (with_reducible first | refine T1 ?_ | refine T2 ?_)) | (refine IsJ ?_; first | refine J_seq ?_ | refine J_region ?_ | refine J_skip ?_ | refine J_ret ?_ | (refine IsCond ?_; first | refine K1 rfl ?_ | refine K2 rfl ?_)))
    obtain ⟨k, hk⟩ := Int.eq_ofNat_of_zero_le m0
    rw [hk] at he m1 ⊢
    obtain ⟨q, hq⟩ : ∃ q, at_[k]? = some q := ⟨at_[k]'(by omega), List.getElem?_eq_getElem _⟩
    have hqb := hb q (List.mem_of_getElem? hq)
    refine JO_fact _ (fun w hs => hR.some (by omega) hs (by repeat (first | exact .head _ | refine .tail _ ?_))) ?_
    rintro ⟨b, o, rfl⟩
    refine JO_val (OV_idx (off := o + k) rfl rfl rfl rfl (by omega) (by omega) (by simp)) rfl rfl ?_
    refine JO_q (OQ_read (v := .int .i64 q) hR (by repeat (first | exact .head _ | refine .tail _ ?_)) rfl rfl (by omega) (by simp [intsV, hq])) rfl rfl ?_
    repeat' (first | (refine IsO ?_; first | refine JO_nil ?_ | (refine IsBin ?_; first | refine B1 rfl rfl rfl rfl ?_ | refine B5 rfl rfl rfl rfl ?_) | (refine IsConv ?_; refine C1 rfl rfl rfl rfl rfl ?_) | refine V1 rfl rfl rfl ?_) | (refine IsAt ?_; (with_reducible first | refine T1 ?_ | refine T2 ?_)) | (refine IsJ ?_; first | refine J_seq ?_ | refine J_region ?_ | refine J_skip ?_ | refine J_ret ?_ | (refine IsCond ?_; first | refine K1 rfl ?_ | refine K2 rfl ?_)))
    exact At_ret rfl rfl (.tmp rfl .nil) rfl (is := [0]) rfl ⟨by rw [Int.toNat_natCast, List.getD_eq_getElem?_getD, hq]; rfl, rfl⟩
end Go.Proofs.Ytahfnbpbdnmggaa
/-
  Our own: the heaps of graphs, as lists: heads, places, how many words are needed.
-/
set_option linter.unusedVariables false
set_option linter.unusedSimpArgs false
namespace Go.Proofs.Ytahfnbpbdnmggaa
open Go.Sep
abbrev hdO (o : RO) : Int × Nat × Int := (o.k, o.ws.length, o.p)
theorem Ch.hds {ws ws' : List Int} : ∀ {os os' : List RO} {i T : Nat}, Ch ws i os T → Ch ws' i os' T → (∀ o ∈ os, ws'[o.i]? = ws[o.i]?) → os'.map hdO = os.map hdO
  | [], [], _, _, _, _, _ => rfl
  | [], o' :: r', i, T, h, h', _ => by have := h'.2.2.2.2.le; have : i = T := h; omega
  | o :: r, [], i, T, h, h', _ => by have := h.2.2.2.2.le; have : i = T := h'; omega
  | o :: r, o' :: r', i, T, ⟨h1, h2, h3, h4, h5⟩, ⟨k1, k2, k3, k4, k5⟩, e => by
    have e1 := e o (.head _)
    rw [h1, h3, k3] at e1
    injection e1 with e1
    obtain ⟨_, _, a1, a2, a3⟩ := packI_un h2
    obtain ⟨_, _, b1, b2, b3⟩ := packI_un k2
    rw [e1] at b1 b2 b3
    rw [a1] at b1
    rw [a2] at b2
    rw [a3] at b3
    have hl : o'.ws.length = o.ws.length := by omega
    rw [hl] at k5
    rw [List.map_cons, List.map_cons, Ch.hds h5 k5 fun x hx => e x (.tail _ hx)]
    unfold hdO
    rw [hl, ← b1, ← b3]
theorem writeW_hd {n T : Nat} {ws : List Int} {st : List Bool} (h : HT n T ws st) {q : Nat} (hq : st[q]? = some true) (x f v : Int) : (writeW ws st x f v)[q]? = ws[q]? := by
  unfold writeW
  by_cases hc : writeC ws st x f v = 0
  · rw [if_pos hc]
    unfold writeC at hc
    by_cases hx : isObj st x
    · rw [if_neg (not_not_intro hx)] at hc
      by_cases hf : 0 ≤ f ∧ f < unN (ws.getD x.toNat 0)
      · obtain ⟨i, rfl⟩ := Int.eq_ofNat_of_zero_le hx.1
        obtain ⟨m, rfl⟩ := Int.eq_ofNat_of_zero_le hf.1
        obtain ⟨w, a1, a2, a3, a4, a5⟩ := h.obj i (by have := hx.2; rwa [Int.toNat_natCast] at this)
        rw [Int.toNat_natCast, getD_of a1] at hf
        rw [Int.toNat_natCast, Int.toNat_natCast]
        refine List.getElem?_set_ne fun e => ?_
        exact a5 q (by omega) (by omega) hq
      · rw [if_pos hf] at hc; cases hc
    · rw [if_pos hx] at hc; cases hc
  · rw [if_neg hc]
/-- A heap and the document's that agree, with such heads. -/
structure BInv (n T : Nat) (ws : List Int) (st : List Bool) (os : List RO) (hs : List (Int × Nat × Int)) : Prop where
  ht : HT n T ws st
  ch : Ch ws 0 os T
  hd : os.map hdO = hs
  ro : RefsOk ws st
theorem BInv.write {n T : Nat} {ws : List Int} {st : List Bool} {os os' : List RO} {hs : List (Int × Nat × Int)} (h : BInv n T ws st os hs) {x f v : Int} (h64 : In64 v) (hc : Ch (writeW ws st x f v) 0 os' T) : BInv n T (writeW ws st x f v) st os' hs :=
  ⟨h.ht.writeW x f v h64, hc, (h.ch.hds hc fun o ho => writeW_hd h.ht (Ch.start h.ht h.ch (h.ht.zero.imp (fun e => e.symm) id) o ho) x f v).trans h.hd, RefsOk.writeW h.ht h.ro x f v⟩
theorem BInv.place {n T : Nat} {ws : List Int} {st : List Bool} {os : List RO} {hs : List (Int × Nat × Int)} (h : BInv n T ws st os hs) {kd pt : Int} {k : Nat} (hg : goodB kd k pt = true) (hf : T + 1 + k ≤ n) (wa : Option Addr) (wc : Nat) :
    BInv n (T + 1 + k) (zeroAt (ws.set T (packI kd k pt)) (T + 1) k) (st.set T true) (os ++ [⟨T, kd, pt, List.replicate k 0, wa, wc⟩]) (hs ++ [(kd, k, pt)]) := by
  have hwl := h.ht.wl
  refine ⟨h.ht.place hg hf, ?_, ?_, RefsOk.place h.ht h.ro hg hf⟩
  · have hb : T + 1 + k ≤ ws.length := by omega
    have h1 := (h.ch.keep (ws' := zeroAt (ws.set T (packI kd k pt)) (T + 1) k) fun q _ b => lay_out hb (.inl b)).snoc (o := ⟨T, kd, pt, List.replicate k 0, wa, wc⟩) rfl (by dsimp only; rw [List.length_replicate]; exact hg) (by dsimp only; rw [List.length_replicate]; exact lay_at hb) (fun q hq => by
      dsimp only at hq ⊢
      rw [List.length_replicate] at hq
      exact (zeroAt_in (by simp; omega) (by omega) (by omega)).trans (zrep hq).symm)
    dsimp only at h1
    rw [List.length_replicate] at h1
    exact h1
  · rw [List.map_append, h.hd, List.map_cons, List.map_nil]
    unfold hdO
    rw [List.length_replicate]
/-- A graph's heap so far: how many nodes, words, where the nodes' objects are, the heads. -/
structure LG where
  i : Nat
  T : Nat
  at_ : List Int
  hs : List (Int × Nat × Int)
def fillG (s : LG) (y : ND) : LG := if s.i % 3 = 2 then ⟨s.i, s.T + 1 + (y.k % 2).toNat, s.at_, s.hs ++ [(15, (y.k % 2).toNat, 0)]⟩ else s
def lenG (y : ND) : Nat := y.es.length + (y.m % 4).toNat
def nodeG (s : LG) (y : ND) : LG := ⟨s.i + 1, s.T + 1 + lenG y, s.at_ ++ [(s.T : Int)], s.hs ++ [(y.k % 15, lenG y, (y.es.length : Int))]⟩
def stepG (s : LG) (y : ND) : LG := nodeG (fillG s y) y
def layG (ns : List ND) : LG := ns.foldl stepG ⟨0, 0, [], []⟩
def needG (ns : List ND) : Nat := (ns.map fun y => 3 + lenG y).sum
theorem take_next {α : Type} {ns : List α} {i : Nat} {y : α} (h : ns[i]? = some y) : ns.take (i + 1) = ns.take i ++ [y] := by rw [List.take_add_one, h]; rfl
theorem layG_next {ns : List ND} {i : Nat} {y : ND} (h : ns[i]? = some y) : layG (ns.take (i + 1)) = stepG (layG (ns.take i)) y := by
  unfold layG
  rw [take_next h, List.foldl_append]
  rfl
theorem needG_next {ns : List ND} {i : Nat} {y : ND} (h : ns[i]? = some y) : needG (ns.take (i + 1)) = needG (ns.take i) + (3 + lenG y) := by
  unfold needG
  rw [take_next h, List.map_append, List.sum_append]
  simp
theorem needG_le {ns : List ND} : ∀ {i : Nat}, needG (ns.take i) ≤ needG ns := by
  intro i
  unfold needG
  conv => rhs; rw [← List.take_append_drop i ns]
  rw [List.map_append, List.sum_append]
  exact Nat.le_add_right _ _
theorem layG_i {ns : List ND} : ∀ {i : Nat}, i ≤ ns.length → (layG (ns.take i)).i = i ∧ (layG (ns.take i)).at_.length = i ∧ (layG (ns.take i)).T ≤ needG (ns.take i) ∧ ∀ q ∈ (layG (ns.take i)).at_, 0 ≤ q ∧ q ≤ (layG (ns.take i)).T
  | 0, _ => ⟨rfl, rfl, Nat.le_refl _, fun q hq => by cases hq⟩
  | i + 1, h => by
    obtain ⟨h1, h2, h3, h4⟩ := layG_i (ns := ns) (i := i) (by omega)
    obtain ⟨y, hy⟩ : ∃ y, ns[i]? = some y := ⟨ns[i]'(by omega), List.getElem?_eq_getElem _⟩
    rw [layG_next hy, needG_next hy]
    generalize layG (ns.take i) = s at h1 h2 h3 h4 ⊢
    unfold stepG nodeG fillG
    by_cases h5 : s.i % 3 = 2
    · rw [if_pos h5]
      refine ⟨by dsimp only; omega, by simp [h2], by dsimp only; omega, fun q hq => ?_⟩
      dsimp only at hq ⊢
      rcases List.mem_append.1 hq with hq | hq
      · have := h4 q hq; omega
      · have := List.mem_singleton.1 hq; omega
    · rw [if_neg h5]
      refine ⟨by dsimp only; omega, by simp [h2], by dsimp only; omega, fun q hq => ?_⟩
      dsimp only at hq ⊢
      rcases List.mem_append.1 hq with hq | hq
      · have := h4 q hq; omega
      · have := List.mem_singleton.1 hq; omega
theorem few_need {R : HP} {g : GG} (h : GOk R g) (hf : fewB g = true) : g.ns.length ≤ 14 ∧ g.rs.length ≤ 14 ∧ (∀ y ∈ g.ns, y.es.length ≤ 10) ∧ needG g.ns ≤ 224 := by
  unfold fewB at hf
  rw [Bool.and_eq_true, Bool.and_eq_true] at hf
  obtain ⟨h1, h2, h3⟩ := hf
  have h2 := of_decide_eq_true h2
  have h3 := of_decide_eq_true h3
  have h1' : ∀ y ∈ g.ns, y.es.length ≤ 10 := fun y hy => of_decide_eq_true (List.all_eq_true.1 h1 y hy)
  refine ⟨h2, h3, h1', ?_⟩
  have : ∀ l : List ND, (∀ y ∈ l, y.es.length ≤ 10) → needG l ≤ 16 * l.length := by
    intro l
    induction l with
    | nil => intro _; exact Nat.le_refl _
    | cons y l ih =>
      intro hl
      have a := ih fun z hz => hl z (.tail _ hz)
      have b := hl y (.head _)
      unfold needG lenG at a ⊢
      simp only [List.map_cons, List.sum_cons, List.length_cons]
      omega
  have := this g.ns h1'
  omega
end Go.Proofs.Ytahfnbpbdnmggaa
/-
  Our own: besomlaw11.Build: a graph's heap and the document's agree.
-/
set_option linter.unusedVariables false
set_option linter.unusedSimpArgs false
namespace Go.Proofs.Ytahfnbpbdnmggaa
open Go.Sep
theorem plcI_in {at_ : List Int} {z : Int} (hb : ∀ q ∈ at_, 0 ≤ q ∧ q ≤ 65536) : 0 ≤ plcI at_ z ∧ plcI at_ z ≤ 65537 := by
  unfold plcI
  split
  · omega
  · generalize (z % ((at_.length : Int) + 1)).toNat = k
    rw [List.getD_eq_getElem?_getD]
    cases h : at_[k]? with
    | none => exact ⟨by decide, by decide⟩
    | some q =>
      have := hb q (List.mem_of_getElem? h)
      rw [Option.getD_some]
      omega
set_option maxHeartbeats 32000000 in
theorem Build_spec {R : HP} {g : GG} (h : GOk R g) (hf : fewB g = true) (room : Nat) (hroom : room ≤ 1000) : Does Try.prog 9 [gV g, .int .i64 room] [R]
    (fun v l => ∃ p bw bs n T ws st a cap os ra rc, BInv n T ws st os (layG g.ns).hs ∧ n = 1 + room + needG g.ns ∧ T = (layG g.ns).T ∧
      v = .tuple #[ptr p 0, .slice ra g.rs.length rc, refV n a os.length cap] ∧ l = heapL p bw bs n ws T st ++ refL a cap os ++ [rowz 3 1 ra g.rs.length rc (intsV (g.rs.map (plcI (layG g.ns).at_))), R]) := by
  obtain ⟨hn14, hr14, he10, hnd224⟩ := few_need h hf
  obtain ⟨ns, na, nc, rs, ra0, rc0⟩ := g
  obtain ⟨hnd, hrn, hnl, hrr, hrb, hrl⟩ := h
  dsimp only at hnd hrn hnl hrr hrb hrl hn14 hr14 he10 hnd224 ⊢
  refine Does.of tiok Try.func9 (by kernel_rfl) rfl Try.ntmps9 rfl ?_
  intro W fr
  repeat' (first | (refine IsO ?_; first | refine JO_nil ?_ | (refine IsBin ?_; first | refine B1 rfl rfl rfl rfl ?_ | refine B5 rfl rfl rfl rfl ?_ | refine B6 rfl rfl rfl rfl ?_) | (refine IsConv ?_; refine C1 rfl rfl rfl rfl rfl ?_) | (refine IsLoad ?_; first | refine L1 rfl rfl rfl rfl ?_ | refine L2 rfl rfl rfl rfl rfl ?_) | (refine IsStore ?_; refine S1 rfl rfl rfl rfl rfl rfl rfl (fun _ => ?_)) | (refine IsBox ?_; refine N1 rfl rfl rfl rfl (fun _ => ?_)) | (refine IsAlloc ?_; refine N2 rfl rfl rfl rfl (fun _ => ?_)) | (refine IsBuild ?_; refine U1 rfl rfl rfl rfl rfl rfl ?_) | refine V1 rfl rfl rfl ?_) | (refine IsAt ?_; first | (with_reducible first | refine T1 ?_ | refine T3 ?_ | refine T5 ?_ | refine T6 ?_) | ((with_reducible show At _ (PBlock _ _ (Exit.exit _)) _ _); refine At_block_hit ?_)) | (refine IsJ ?_; first | refine J_seq ?_ | refine J_region ?_ | refine J_block ?_ | refine J_skip ?_ | refine J_ret ?_ | refine J_exit ?_ | (refine IsCond ?_; first | refine K1 rfl ?_ | refine K2 rfl ?_ | refine J_cb rfl (fun _ => ?_) (fun _ => ?_))))
  rename_i bg b6
  rw [show (1 : Int) + (room : Int) = ((1 + room + needG (ns.take 0) : Nat) : Int) by show _ = ((1 + room + 0 : Nat) : Int); omega]
  refine J_loop (α := Nat) (fun i => i ≤ ns.length)
    (fun i => [(2, ptr bg 0), (4, .pointer none), (5, .slice none 0 0), (6, ptr b6 0), (7, .int .i64 ((1 + room + needG (ns.take i) : Nat) : Int)), (31, .slice na ns.length nc), (32, .int .i64 ns.length), (33, .int .i64 i)])
    (fun i => [blk b6 [.int .i64 0, .slice none 0 0] 33, blk bg [.slice na ns.length nc, .slice ra0 rs.length rc0] 25, R]) (fun i => ns.length - i) 0 (Nat.zero_le _) (by repeat (first | exact True.intro | refine And.intro rfl ?_)) (fun H hl => hl) ?_
  intro i hi
  have hni := Nat.le_trans (needG_le (ns := ns) (i := i)) hnd224
  repeat' (first | (refine IsO ?_; first | refine JO_nil ?_ | (refine IsBin ?_; first | refine B1 rfl rfl rfl rfl ?_ | refine B5 rfl rfl rfl rfl ?_ | refine B6 rfl rfl rfl rfl ?_) | (refine IsConv ?_; refine C1 rfl rfl rfl rfl rfl ?_) | (refine IsLoad ?_; first | refine L1 rfl rfl rfl rfl ?_ | refine L2 rfl rfl rfl rfl rfl ?_) | (refine IsStore ?_; refine S1 rfl rfl rfl rfl rfl rfl rfl (fun _ => ?_)) | (refine IsBox ?_; refine N1 rfl rfl rfl rfl (fun _ => ?_)) | (refine IsAlloc ?_; refine N2 rfl rfl rfl rfl (fun _ => ?_)) | (refine IsBuild ?_; refine U1 rfl rfl rfl rfl rfl rfl ?_) | refine V1 rfl rfl rfl ?_) | (refine IsAt ?_; first | (with_reducible first | refine T1 ?_ | refine T3 ?_ | refine T5 ?_ | refine T6 ?_) | ((with_reducible show At _ (PBlock _ _ (Exit.exit _)) _ _); refine At_block_hit ?_)) | (refine IsJ ?_; first | refine J_seq ?_ | refine J_region ?_ | refine J_skip ?_ | refine J_ret ?_ | refine J_exit ?_ | (refine IsCond ?_; first | refine K1 rfl ?_ | refine K2 rfl ?_ | refine J_cb rfl (fun _ => ?_) (fun _ => ?_))))
  · rename_i hlt
    refine J_block ?_
    obtain ⟨y, hy⟩ : ∃ y, ns[i]? = some y := ⟨ns[i]'(by omega), List.getElem?_eq_getElem _⟩
    have hyo := hnd y (List.mem_of_getElem? hy)
    have hye := he10 y (List.mem_of_getElem? hy)
    have hk0 := hyo.k0
    have hk1 := hyo.k1
    have hm0 := hyo.m0
    have hm1 := hyo.m1
    have hnx := needG_next hy
    unfold lenG at hnx
    repeat' (first | (refine IsO ?_; first | refine JO_nil ?_ | (refine IsBin ?_; first | refine B1 rfl rfl rfl rfl ?_ | refine B5 rfl rfl rfl rfl ?_ | refine B6 rfl rfl rfl rfl ?_) | (refine IsConv ?_; refine C1 rfl rfl rfl rfl rfl ?_) | (refine IsLoad ?_; first | refine L1 rfl rfl rfl rfl ?_ | refine L2 rfl rfl rfl rfl rfl ?_) | (refine IsStore ?_; refine S1 rfl rfl rfl rfl rfl rfl rfl (fun _ => ?_)) | (refine IsBox ?_; refine N1 rfl rfl rfl rfl (fun _ => ?_)) | (refine IsAlloc ?_; refine N2 rfl rfl rfl rfl (fun _ => ?_)) | (refine IsBuild ?_; refine U1 rfl rfl rfl rfl rfl rfl ?_) | refine V1 rfl rfl rfl ?_) | (refine IsAt ?_; first | (with_reducible first | refine T1 ?_ | refine T3 ?_ | refine T5 ?_ | refine T6 ?_) | ((with_reducible show At _ (PBlock _ _ (Exit.exit _)) _ _); refine At_block_hit ?_)) | (refine IsJ ?_; first | refine J_seq ?_ | refine J_region ?_ | refine J_block ?_ | refine J_skip ?_ | refine J_ret ?_ | refine J_exit ?_ | (refine IsCond ?_; first | refine K1 rfl ?_ | refine K2 rfl ?_ | refine J_cb rfl (fun _ => ?_) (fun _ => ?_))))
    refine JO_fact _ (fun w hs => hrn.some (by omega) hs (by repeat (first | exact .head _ | refine .tail _ ?_))) ?_
    rintro ⟨b, o, rfl⟩
    refine JO_val (OV_idx (off := o + i * 3) rfl rfl rfl rfl (by omega) (by omega) (by simp)) rfl rfl ?_
    refine JO_q (OQ_readA hrn (by repeat (first | exact .head _ | refine .tail _ ?_)) rfl rfl rfl (by omega) (node_take hy)) rfl rfl ?_
    repeat' (first | (refine IsO ?_; first | refine JO_nil ?_ | (refine IsBin ?_; first | refine B1 rfl rfl rfl rfl ?_ | refine B5 rfl rfl rfl rfl ?_ | refine B6 rfl rfl rfl rfl ?_) | (refine IsConv ?_; refine C1 rfl rfl rfl rfl rfl ?_) | (refine IsLoad ?_; first | refine L1 rfl rfl rfl rfl ?_ | refine L2 rfl rfl rfl rfl rfl ?_) | (refine IsStore ?_; refine S1 rfl rfl rfl rfl rfl rfl rfl (fun _ => ?_)) | (refine IsBox ?_; refine N1 rfl rfl rfl rfl (fun _ => ?_)) | (refine IsAlloc ?_; refine N2 rfl rfl rfl rfl (fun _ => ?_)) | (refine IsBuild ?_; refine U1 rfl rfl rfl rfl rfl rfl ?_) | refine V1 rfl rfl rfl ?_) | (refine IsAt ?_; first | (with_reducible first | refine T1 ?_ | refine T3 ?_ | refine T5 ?_ | refine T6 ?_) | ((with_reducible show At _ (PBlock _ _ (Exit.exit _)) _ _); refine At_block_hit ?_)) | (refine IsJ ?_; first | refine J_seq ?_ | refine J_region ?_ | refine J_block ?_ | refine J_skip ?_ | refine J_ret ?_ | refine J_exit ?_ | (refine IsCond ?_; first | refine K1 rfl ?_ | refine K2 rfl ?_ | refine J_cb rfl (fun _ => ?_) (fun _ => ?_))))
    rw [show ((1 + room + needG (ns.take i) : Nat) : Int) + (3 + (y.es.length : Int) + y.m % 4) = ((1 + room + needG (ns.take (i + 1)) : Nat) : Int) by rw [hnx]; omega]
    exact At_round (i + 1) (by show ns.length - (i + 1) < ns.length - i; omega) (by show i + 1 ≤ ns.length; omega) (by repeat (first | exact True.intro | refine And.intro rfl ?_)) (fun H hl => hl.tail)
  obtain rfl : i = ns.length := by omega
  rw [List.take_length]
  repeat' (first | (refine IsO ?_; first | refine JO_nil ?_ | (refine IsBin ?_; first | refine B1 rfl rfl rfl rfl ?_ | refine B5 rfl rfl rfl rfl ?_ | refine B6 rfl rfl rfl rfl ?_) | (refine IsConv ?_; refine C1 rfl rfl rfl rfl rfl ?_) | (refine IsLoad ?_; first | refine L1 rfl rfl rfl rfl ?_ | refine L2 rfl rfl rfl rfl rfl ?_) | (refine IsStore ?_; refine S1 rfl rfl rfl rfl rfl rfl rfl (fun _ => ?_)) | (refine IsBox ?_; refine N1 rfl rfl rfl rfl (fun _ => ?_)) | (refine IsAlloc ?_; refine N2 rfl rfl rfl rfl (fun _ => ?_)) | (refine IsBuild ?_; refine U1 rfl rfl rfl rfl rfl rfl ?_) | refine V1 rfl rfl rfl ?_) | (refine IsAt ?_; first | (with_reducible first | refine T1 ?_ | refine T3 ?_ | refine T5 ?_ | refine T6 ?_) | ((with_reducible show At _ (PBlock _ _ (Exit.exit _)) _ _); refine At_block_hit ?_)) | (refine IsJ ?_; first | refine J_seq ?_ | refine J_region ?_ | refine J_block ?_ | refine J_skip ?_ | refine J_ret ?_ | refine J_exit ?_ | (refine IsCond ?_; first | refine K1 rfl ?_ | refine K2 rfl ?_ | refine J_cb rfl (fun _ => ?_) (fun _ => ?_))))
  obtain ⟨n, hn⟩ : ∃ n, n = 1 + room + needG ns := ⟨_, rfl⟩
  rw [← hn]
  have hN : Does Try.prog 30 [.int .i64 n] [] _ := heapNew_ok n (by omega) (by omega)
  refine JO_l (OL_call [] rfl rfl rfl (hN) rfl) rfl rfl ?_; rintro _ _ ⟨_, ⟨p, bw, bs, rfl, rfl⟩, rfl⟩
  have hB0 : BInv n 0 (List.replicate n 0) (List.replicate n false) [] [] := ⟨HT.new (by omega), rfl, rfl, RefsOk.new⟩
  generalize List.replicate n (0 : Int) = ws0 at hB0
  generalize List.replicate n false = st0 at hB0
  clear hN
  repeat' (first | (refine IsO ?_; first | refine JO_nil ?_ | (refine IsBin ?_; first | refine B1 rfl rfl rfl rfl ?_ | refine B5 rfl rfl rfl rfl ?_ | refine B6 rfl rfl rfl rfl ?_) | (refine IsConv ?_; refine C1 rfl rfl rfl rfl rfl ?_) | (refine IsLoad ?_; first | refine L1 rfl rfl rfl rfl ?_ | refine L2 rfl rfl rfl rfl rfl ?_) | (refine IsStore ?_; refine S1 rfl rfl rfl rfl rfl rfl rfl (fun _ => ?_)) | (refine IsBox ?_; refine N1 rfl rfl rfl rfl (fun _ => ?_)) | (refine IsAlloc ?_; refine N2 rfl rfl rfl rfl (fun _ => ?_)) | (refine IsBuild ?_; refine U1 rfl rfl rfl rfl rfl rfl ?_) | refine V1 rfl rfl rfl ?_) | (refine IsAt ?_; first | (with_reducible first | refine T1 ?_ | refine T3 ?_ | refine T5 ?_ | refine T6 ?_) | ((with_reducible show At _ (PBlock _ _ (Exit.exit _)) _ _); refine At_block_hit ?_)) | (refine IsJ ?_; first | refine J_seq ?_ | refine J_region ?_ | refine J_block ?_ | refine J_skip ?_ | refine J_ret ?_ | refine J_exit ?_ | (refine IsCond ?_; first | refine K1 rfl ?_ | refine K2 rfl ?_ | refine J_cb rfl (fun _ => ?_) (fun _ => ?_))))
  rename_i b12 _
  refine J_loop (α := Nat × List Int × List Bool × Option Addr × Nat × List RO × Option Addr × Nat)
    (fun x => x.1 ≤ ns.length ∧ BInv n (layG (ns.take x.1)).T x.2.1 x.2.2.1 x.2.2.2.2.2.1 (layG (ns.take x.1)).hs)
    (fun x => [(2, ptr bg 0), (4, .pointer none), (5, .slice none 0 0), (6, ptr b6 0), (10, ptr p 0), (12, ptr b12 0), (13, .slice x.2.2.2.2.2.2.1 x.1 x.2.2.2.2.2.2.2), (57, .slice na ns.length nc), (58, .int .i64 ns.length), (59, .int .i64 x.1)])
    (fun x => [rowz 3 1 x.2.2.2.2.2.2.1 x.1 x.2.2.2.2.2.2.2 (intsV (layG (ns.take x.1)).at_), blk b12 [.int .i64 n, .slice x.2.2.2.1 x.2.2.2.2.2.1.length x.2.2.2.2.1] 33] ++ heapL p bw bs n x.2.1 (layG (ns.take x.1)).T x.2.2.1 ++ refL x.2.2.2.1 x.2.2.2.2.1 x.2.2.2.2.2.1 ++ [blk b6 [.int .i64 0, .slice none 0 0] 33, blk bg [.slice na ns.length nc, .slice ra0 rs.length rc0] 25, R])
    (fun x => ns.length - x.1) (0, ws0, st0, none, 0, [], none, 0) ⟨Nat.zero_le _, hB0⟩ (by repeat (first | exact True.intro | refine And.intro rfl ?_))
    (fun H hl => (rowz_nil (T := 3) (sz := 1) (a := none) (rowz_nil (T := 47) (sz := 5) (a := none) (RW_nil hl))).pick (is := [0, 2, 2, 2, 2, 0, 0, 0, 0, 0]) rfl) ?_
  rintro ⟨i, ws, st, a, cap, os, ta, tc⟩ ⟨hi, hB⟩
  dsimp only at hi hB ⊢
  repeat' (first | (refine IsO ?_; first | refine JO_nil ?_ | (refine IsBin ?_; first | refine B1 rfl rfl rfl rfl ?_ | refine B5 rfl rfl rfl rfl ?_ | refine B6 rfl rfl rfl rfl ?_) | (refine IsConv ?_; refine C1 rfl rfl rfl rfl rfl ?_) | (refine IsLoad ?_; first | refine L1 rfl rfl rfl rfl ?_ | refine L2 rfl rfl rfl rfl rfl ?_) | (refine IsStore ?_; refine S1 rfl rfl rfl rfl rfl rfl rfl (fun _ => ?_)) | (refine IsBox ?_; refine N1 rfl rfl rfl rfl (fun _ => ?_)) | (refine IsAlloc ?_; refine N2 rfl rfl rfl rfl (fun _ => ?_)) | (refine IsBuild ?_; refine U1 rfl rfl rfl rfl rfl rfl ?_) | refine V1 rfl rfl rfl ?_) | (refine IsAt ?_; first | (with_reducible first | refine T1 ?_ | refine T3 ?_ | refine T5 ?_ | refine T6 ?_) | ((with_reducible show At _ (PBlock _ _ (Exit.exit _)) _ _); refine At_block_hit ?_)) | (refine IsJ ?_; first | refine J_seq ?_ | refine J_region ?_ | refine J_skip ?_ | refine J_ret ?_ | refine J_exit ?_ | (refine IsCond ?_; first | refine K1 rfl ?_ | refine K2 rfl ?_ | refine J_cb rfl (fun _ => ?_) (fun _ => ?_))))
  · rename_i hlt
    refine J_block ?_
    obtain ⟨y, hy⟩ : ∃ y, ns[i]? = some y := ⟨ns[i]'(by omega), List.getElem?_eq_getElem _⟩
    have hyo := hnd y (List.mem_of_getElem? hy)
    have hye := he10 y (List.mem_of_getElem? hy)
    have hk0 := hyo.k0
    have hk1 := hyo.k1
    have hm0 := hyo.m0
    have hm1 := hyo.m1
    obtain ⟨hLi, hLa, hLT, hLb⟩ := layG_i (ns := ns) (i := i) hi
    have hnx := needG_next hy
    have hnt := needG_le (ns := ns) (i := i + 1)
    have hlx := layG_next hy
    generalize layG (ns.take i) = s at hLi hLa hLT hLb hlx hB ⊢
    obtain ⟨m2, hm2⟩ := Int.eq_ofNat_of_zero_le (show 0 ≤ y.k % 2 by omega)
    have hfill : (fillG s y).T ≤ s.T + 2 := by
      unfold fillG
      split
      · dsimp only; omega
      · omega
    have hmlen : (y.es.length : Int) + y.m % 4 = (lenG y : Nat) := by unfold lenG; omega
    have hlG : lenG y ≤ 13 := by unfold lenG; omega
    have htn := hB.ht.tn
    repeat' (first | (refine IsO ?_; first | refine JO_nil ?_ | (refine IsBin ?_; first | refine B1 rfl rfl rfl rfl ?_ | refine B5 rfl rfl rfl rfl ?_ | refine B6 rfl rfl rfl rfl ?_) | (refine IsConv ?_; refine C1 rfl rfl rfl rfl rfl ?_) | (refine IsLoad ?_; first | refine L1 rfl rfl rfl rfl ?_ | refine L2 rfl rfl rfl rfl rfl ?_) | (refine IsStore ?_; refine S1 rfl rfl rfl rfl rfl rfl rfl (fun _ => ?_)) | (refine IsBox ?_; refine N1 rfl rfl rfl rfl (fun _ => ?_)) | (refine IsAlloc ?_; refine N2 rfl rfl rfl rfl (fun _ => ?_)) | (refine IsBuild ?_; refine U1 rfl rfl rfl rfl rfl rfl ?_) | refine V1 rfl rfl rfl ?_) | (refine IsAt ?_; first | (with_reducible first | refine T1 ?_ | refine T3 ?_ | refine T5 ?_ | refine T6 ?_) | ((with_reducible show At _ (PBlock _ _ (Exit.exit _)) _ _); refine At_block_hit ?_)) | (refine IsJ ?_; first | refine J_seq ?_ | refine J_region ?_ | refine J_block ?_ | refine J_skip ?_ | refine J_ret ?_ | refine J_exit ?_ | (refine IsCond ?_; first | refine K1 rfl ?_ | refine K2 rfl ?_ | refine J_cb rfl (fun _ => ?_) (fun _ => ?_))))
    refine JO_fact _ (fun w hs => hrn.some (by omega) hs (by repeat (first | exact .head _ | refine .tail _ ?_))) ?_
    rintro ⟨b, o, rfl⟩
    refine JO_val (OV_idx (off := o + i * 3) rfl rfl rfl rfl (by omega) (by omega) (by simp)) rfl rfl ?_
    refine JO_q (OQ_readA hrn (by repeat (first | exact .head _ | refine .tail _ ?_)) rfl rfl rfl (by omega) (node_take hy)) rfl rfl ?_
    repeat' ((fail_if_success (with_reducible show J _ (Code.cond (Operand.tmp 66) _ _) _ _ _)); first | (refine IsO ?_; first | refine JO_nil ?_ | (refine IsBin ?_; first | refine B1 rfl rfl rfl rfl ?_ | refine B5 rfl rfl rfl rfl ?_ | refine B6 rfl rfl rfl rfl ?_) | (refine IsConv ?_; refine C1 rfl rfl rfl rfl rfl ?_) | (refine IsLoad ?_; first | refine L1 rfl rfl rfl rfl ?_ | refine L2 rfl rfl rfl rfl rfl ?_) | (refine IsStore ?_; refine S1 rfl rfl rfl rfl rfl rfl rfl (fun _ => ?_)) | (refine IsBox ?_; refine N1 rfl rfl rfl rfl (fun _ => ?_)) | (refine IsAlloc ?_; refine N2 rfl rfl rfl rfl (fun _ => ?_)) | (refine IsBuild ?_; refine U1 rfl rfl rfl rfl rfl rfl ?_) | refine V1 rfl rfl rfl ?_) | (refine IsAt ?_; first | (with_reducible first | refine T1 ?_ | refine T3 ?_ | refine T5 ?_ | refine T6 ?_) | ((with_reducible show At _ (PBlock _ _ (Exit.exit _)) _ _); refine At_block_hit ?_)) | (refine IsJ ?_; first | refine J_seq ?_ | refine J_region ?_ | refine J_block ?_ | refine J_skip ?_ | refine J_ret ?_ | refine J_exit ?_ | (refine IsCond ?_; first | refine K1 rfl ?_ | refine K2 rfl ?_ | refine J_cb rfl (fun _ => ?_) (fun _ => ?_))))
    rename_i b15 _
    refine J_cutP (α := List Int × List Bool × Option Addr × Nat × List RO) (fun x => BInv n (fillG s y).T x.1 x.2.1 x.2.2.2.2 (fillG s y).hs)
      (fun x => [(2, ptr bg 0), (4, .pointer none), (5, .slice none 0 0), (6, ptr b6 0), (10, ptr p 0), (12, ptr b12 0), (13, .slice ta i tc), (15, ptr b15 0), (57, .slice (some ⟨b, o, none⟩) ns.length nc), (58, .int .i64 ns.length), (59, .int .i64 i)])
      (fun x => [blk b15 (cellsN y) 78, rowz 3 1 ta i tc (intsV s.at_), blk b12 [.int .i64 n, .slice x.2.2.1 x.2.2.2.2.length x.2.2.2.1] 33] ++ heapL p bw bs n x.1 (fillG s y).T x.2.1 ++ refL x.2.2.1 x.2.2.2.1 x.2.2.2.2 ++ [blk b6 [.int .i64 0, .slice none 0 0] 33, blk bg [.slice (some ⟨b, o, none⟩) ns.length nc, .slice ra0 rs.length rc0] 25, R]) ?_ ?_
    · by_cases h3 : (i : Int) % 3 = 2
      · have eF : fillG s y = ⟨s.i, s.T + 1 + m2, s.at_, s.hs ++ [(15, m2, 0)]⟩ := by unfold fillG; rw [if_pos (by omega), hm2]; rfl
        rw [eF]
        have hg : goodB 15 (m2 : Nat) 0 = true := decide_eq_true (by omega)
        repeat' (first | (refine IsO ?_; first | refine JO_nil ?_ | (refine IsBin ?_; first | refine B1 rfl rfl rfl rfl ?_ | refine B5 rfl rfl rfl rfl ?_ | refine B6 rfl rfl rfl rfl ?_) | (refine IsConv ?_; refine C1 rfl rfl rfl rfl rfl ?_) | (refine IsLoad ?_; first | refine L1 rfl rfl rfl rfl ?_ | refine L2 rfl rfl rfl rfl rfl ?_) | (refine IsStore ?_; refine S1 rfl rfl rfl rfl rfl rfl rfl (fun _ => ?_)) | (refine IsBox ?_; refine N1 rfl rfl rfl rfl (fun _ => ?_)) | (refine IsAlloc ?_; refine N2 rfl rfl rfl rfl (fun _ => ?_)) | (refine IsBuild ?_; refine U1 rfl rfl rfl rfl rfl rfl ?_) | refine V1 rfl rfl rfl ?_) | (refine IsAt ?_; first | (with_reducible first | refine T1 ?_ | refine T3 ?_ | refine T5 ?_ | refine T6 ?_) | ((with_reducible show At _ (PBlock _ _ (Exit.exit _)) _ _); refine At_block_hit ?_)) | (refine IsJ ?_; first | refine J_seq ?_ | refine J_region ?_ | refine J_block ?_ | refine J_skip ?_ | refine J_ret ?_ | refine J_exit ?_ | (refine IsCond ?_; first | refine K1 rfl ?_ | refine K2 rfl ?_ | refine J_cb rfl (fun _ => ?_) (fun _ => ?_))))
        rw [hm2]
        refine JO_l (OL_call [3, 3, 3] rfl rfl rfl (Place_ok 15 0 m2 s.T hB.ht.wl hB.ht.sl hB.ht.nb hg (by omega)) rfl) rfl rfl ?_; rintro _ _ ⟨_, ⟨rfl, rfl⟩, rfl⟩
        repeat' (first | (refine IsO ?_; first | refine JO_nil ?_ | (refine IsBin ?_; first | refine B1 rfl rfl rfl rfl ?_ | refine B5 rfl rfl rfl rfl ?_ | refine B6 rfl rfl rfl rfl ?_) | (refine IsConv ?_; refine C1 rfl rfl rfl rfl rfl ?_) | (refine IsLoad ?_; first | refine L1 rfl rfl rfl rfl ?_ | refine L2 rfl rfl rfl rfl rfl ?_) | (refine IsStore ?_; refine S1 rfl rfl rfl rfl rfl rfl rfl (fun _ => ?_)) | (refine IsBox ?_; refine N1 rfl rfl rfl rfl (fun _ => ?_)) | (refine IsAlloc ?_; refine N2 rfl rfl rfl rfl (fun _ => ?_)) | (refine IsBuild ?_; refine U1 rfl rfl rfl rfl rfl rfl ?_) | refine V1 rfl rfl rfl ?_) | (refine IsAt ?_; first | (with_reducible first | refine T1 ?_ | refine T3 ?_ | refine T5 ?_ | refine T6 ?_) | ((with_reducible show At _ (PBlock _ _ (Exit.exit _)) _ _); refine At_block_hit ?_)) | (refine IsJ ?_; first | refine J_seq ?_ | refine J_region ?_ | refine J_block ?_ | refine J_skip ?_ | refine J_ret ?_ | refine J_exit ?_ | (refine IsCond ?_; first | refine K1 rfl ?_ | refine K2 rfl ?_ | refine J_cb rfl (fun _ => ?_) (fun _ => ?_))))
        rw [hm2]
        refine JO_l (OL_call [6, 6] rfl rfl rfl (refPlace_ok 15 0 m2 hB.ch hB.ht.tn hB.ht.nb hg (by omega)) rfl) rfl rfl ?_; rintro _ _ ⟨_, ⟨a4, c4, wa, wc, rfl, rfl⟩, rfl⟩
        repeat' (first | (refine IsO ?_; first | refine JO_nil ?_ | (refine IsBin ?_; first | refine B1 rfl rfl rfl rfl ?_ | refine B5 rfl rfl rfl rfl ?_ | refine B6 rfl rfl rfl rfl ?_) | (refine IsConv ?_; refine C1 rfl rfl rfl rfl rfl ?_) | (refine IsLoad ?_; first | refine L1 rfl rfl rfl rfl ?_ | refine L2 rfl rfl rfl rfl rfl ?_) | (refine IsStore ?_; refine S1 rfl rfl rfl rfl rfl rfl rfl (fun _ => ?_)) | (refine IsBox ?_; refine N1 rfl rfl rfl rfl (fun _ => ?_)) | (refine IsAlloc ?_; refine N2 rfl rfl rfl rfl (fun _ => ?_)) | (refine IsBuild ?_; refine U1 rfl rfl rfl rfl rfl rfl ?_) | refine V1 rfl rfl rfl ?_) | (refine IsAt ?_; first | (with_reducible first | refine T1 ?_ | refine T3 ?_ | refine T5 ?_ | refine T6 ?_) | ((with_reducible show At _ (PBlock _ _ (Exit.exit _)) _ _); refine At_block_hit ?_)) | (refine IsJ ?_; first | refine J_seq ?_ | refine J_region ?_ | refine J_block ?_ | refine J_skip ?_ | refine J_ret ?_ | refine J_exit ?_ | (refine IsCond ?_; first | refine K1 rfl ?_ | refine K2 rfl ?_ | refine J_cb rfl (fun _ => ?_) (fun _ => ?_))))
        exact At_meet (_, _, a4, c4, _) (hB.place hg (by omega) wa wc) (by repeat (first | exact True.intro | refine And.intro rfl ?_)) (fun H hl => hl.pick (is := [6, 6, 0, 2, 2, 2, 0, 0, 0, 0, 0]) rfl)
      · have eF : fillG s y = s := by unfold fillG; rw [if_neg (by omega)]
        rw [eF]
        repeat' (first | (refine IsO ?_; first | refine JO_nil ?_ | (refine IsBin ?_; first | refine B1 rfl rfl rfl rfl ?_ | refine B5 rfl rfl rfl rfl ?_ | refine B6 rfl rfl rfl rfl ?_) | (refine IsConv ?_; refine C1 rfl rfl rfl rfl rfl ?_) | (refine IsLoad ?_; first | refine L1 rfl rfl rfl rfl ?_ | refine L2 rfl rfl rfl rfl rfl ?_) | (refine IsStore ?_; refine S1 rfl rfl rfl rfl rfl rfl rfl (fun _ => ?_)) | (refine IsBox ?_; refine N1 rfl rfl rfl rfl (fun _ => ?_)) | (refine IsAlloc ?_; refine N2 rfl rfl rfl rfl (fun _ => ?_)) | (refine IsBuild ?_; refine U1 rfl rfl rfl rfl rfl rfl ?_) | refine V1 rfl rfl rfl ?_) | (refine IsAt ?_; first | (with_reducible first | refine T1 ?_ | refine T3 ?_ | refine T5 ?_ | refine T6 ?_) | ((with_reducible show At _ (PBlock _ _ (Exit.exit _)) _ _); refine At_block_hit ?_)) | (refine IsJ ?_; first | refine J_seq ?_ | refine J_region ?_ | refine J_block ?_ | refine J_skip ?_ | refine J_ret ?_ | refine J_exit ?_ | (refine IsCond ?_; first | refine K1 rfl ?_ | refine K2 rfl ?_ | refine J_cb rfl (fun _ => ?_) (fun _ => ?_))))
        exact At_meet (ws, st, a, cap, os) hB (by repeat (first | exact True.intro | refine And.intro rfl ?_)) (fun H hl => hl)
    · clear hB
      rintro ⟨ws1, st1, a1, cap1, os1⟩ hB
      dsimp only at hB ⊢
      obtain ⟨Tq, hTq⟩ : ∃ Tq, Tq = (fillG s y).T := ⟨_, rfl⟩
      have hlx1 : layG (ns.take (i + 1)) = ⟨i + 1, Tq + 1 + lenG y, s.at_ ++ [(Tq : Int)], (fillG s y).hs ++ [(y.k % 15, lenG y, (y.es.length : Int))]⟩ := by
        rw [hlx, hTq]
        unfold stepG nodeG
        have e1 : (fillG s y).i = i := by unfold fillG; split <;> exact hLi
        have e2 : (fillG s y).at_ = s.at_ := by unfold fillG; split <;> rfl
        rw [e1, e2]
      rw [← hTq] at hB hfill ⊢
      have hk15 : 0 ≤ y.k % 15 ∧ y.k % 15 < 15 := by omega
      have hg : goodB (y.k % 15) (lenG y) y.es.length = true := decide_eq_true (by omega)
      have htn := hB.ht.tn
      have hnb := hB.ht.nb
      repeat' (first | (refine IsO ?_; first | refine JO_nil ?_ | (refine IsBin ?_; first | refine B1 rfl rfl rfl rfl ?_ | refine B5 rfl rfl rfl rfl ?_ | refine B6 rfl rfl rfl rfl ?_) | (refine IsConv ?_; refine C1 rfl rfl rfl rfl rfl ?_) | (refine IsLoad ?_; first | refine L1 rfl rfl rfl rfl ?_ | refine L2 rfl rfl rfl rfl rfl ?_) | (refine IsStore ?_; refine S1 rfl rfl rfl rfl rfl rfl rfl (fun _ => ?_)) | (refine IsBox ?_; refine N1 rfl rfl rfl rfl (fun _ => ?_)) | (refine IsAlloc ?_; refine N2 rfl rfl rfl rfl (fun _ => ?_)) | (refine IsBuild ?_; refine U1 rfl rfl rfl rfl rfl rfl ?_) | refine V1 rfl rfl rfl ?_) | (refine IsAt ?_; first | (with_reducible first | refine T1 ?_ | refine T3 ?_ | refine T5 ?_ | refine T6 ?_) | ((with_reducible show At _ (PBlock _ _ (Exit.exit _)) _ _); refine At_block_hit ?_)) | (refine IsJ ?_; first | refine J_seq ?_ | refine J_region ?_ | refine J_block ?_ | refine J_skip ?_ | refine J_ret ?_ | refine J_exit ?_ | (refine IsCond ?_; first | refine K1 rfl ?_ | refine K2 rfl ?_ | refine J_cb rfl (fun _ => ?_) (fun _ => ?_))))
      rw [hmlen]
      rename_i b16 _
      refine JO_l (OL_call [4, 4, 4] rfl rfl rfl (Place_ok (y.k % 15) y.es.length (lenG y) Tq hB.ht.wl hB.ht.sl hB.ht.nb hg (by omega)) rfl) rfl rfl ?_; rintro _ _ ⟨_, ⟨rfl, rfl⟩, rfl⟩
      repeat' (first | (refine IsO ?_; first | refine JO_nil ?_ | (refine IsBin ?_; first | refine B1 rfl rfl rfl rfl ?_ | refine B5 rfl rfl rfl rfl ?_ | refine B6 rfl rfl rfl rfl ?_) | (refine IsConv ?_; refine C1 rfl rfl rfl rfl rfl ?_) | (refine IsLoad ?_; first | refine L1 rfl rfl rfl rfl ?_ | refine L2 rfl rfl rfl rfl rfl ?_) | (refine IsStore ?_; refine S1 rfl rfl rfl rfl rfl rfl rfl (fun _ => ?_)) | (refine IsBox ?_; refine N1 rfl rfl rfl rfl (fun _ => ?_)) | (refine IsAlloc ?_; refine N2 rfl rfl rfl rfl (fun _ => ?_)) | (refine IsBuild ?_; refine U1 rfl rfl rfl rfl rfl rfl ?_) | refine V1 rfl rfl rfl ?_) | (refine IsAt ?_; first | (with_reducible first | refine T1 ?_ | refine T3 ?_ | refine T5 ?_ | refine T6 ?_) | ((with_reducible show At _ (PBlock _ _ (Exit.exit _)) _ _); refine At_block_hit ?_)) | (refine IsJ ?_; first | refine J_seq ?_ | refine J_region ?_ | refine J_block ?_ | refine J_skip ?_ | refine J_ret ?_ | refine J_exit ?_ | (refine IsCond ?_; first | refine K1 rfl ?_ | refine K2 rfl ?_ | refine J_cb rfl (fun _ => ?_) (fun _ => ?_))))
      refine JO_l (OL_call [7, 7] rfl rfl rfl (refPlace_ok (y.k % 15) y.es.length (lenG y) hB.ch hB.ht.tn hB.ht.nb hg (by omega)) rfl) rfl rfl ?_; rintro _ _ ⟨_, ⟨a4, c4, wa, wc, rfl, rfl⟩, rfl⟩
      have hB2 := hB.place hg (by omega) wa wc
      generalize zeroAt (ws1.set Tq (packI (y.k % 15) (lenG y) (y.es.length : Int))) (Tq + 1) (lenG y) = ws2 at hB2 ⊢
      generalize st1.set Tq true = st2 at hB2 ⊢
      generalize os1 ++ [(⟨Tq, y.k % 15, y.es.length, List.replicate (lenG y) 0, wa, wc⟩ : RO)] = os2 at hB2 ⊢
      refine JO_hp (fun H hl => hl.pick (is := [8, 7, 2, 2, 2, 0, 0, 2, 2, 2]) rfl) ?_
      repeat' (first | (refine IsO ?_; first | refine JO_nil ?_ | (refine IsBin ?_; first | refine B1 rfl rfl rfl rfl ?_ | refine B5 rfl rfl rfl rfl ?_ | refine B6 rfl rfl rfl rfl ?_) | (refine IsConv ?_; refine C1 rfl rfl rfl rfl rfl ?_) | (refine IsLoad ?_; first | refine L1 rfl rfl rfl rfl ?_ | refine L2 rfl rfl rfl rfl rfl ?_) | (refine IsStore ?_; refine S1 rfl rfl rfl rfl rfl rfl rfl (fun _ => ?_)) | (refine IsBox ?_; refine N1 rfl rfl rfl rfl (fun _ => ?_)) | (refine IsAlloc ?_; refine N2 rfl rfl rfl rfl (fun _ => ?_)) | (refine IsBuild ?_; refine U1 rfl rfl rfl rfl rfl rfl ?_) | refine V1 rfl rfl rfl ?_) | (refine IsAt ?_; first | (with_reducible first | refine T1 ?_ | refine T3 ?_ | refine T5 ?_ | refine T6 ?_) | ((with_reducible show At _ (PBlock _ _ (Exit.exit _)) _ _); refine At_block_hit ?_)) | (refine IsJ ?_; first | refine J_seq ?_ | refine J_region ?_ | refine J_block ?_ | refine J_skip ?_ | refine J_ret ?_ | refine J_exit ?_ | (refine IsCond ?_; first | refine K1 rfl ?_ | refine K2 rfl ?_ | refine J_cb rfl (fun _ => ?_) (fun _ => ?_))))
      refine JO_l (OL_buildSlice (cs := [.int .i64 Tq]) rfl rfl rfl rfl rfl rfl rfl rfl) rfl rfl ?_
      rintro _ _ ⟨bb, rfl, rfl⟩
      refine JO_l (OL_appendr (m := 1) rfl rfl rfl rfl rfl (by first | exact P0 | exact P1 | exact P2 | exact P3 | exact P4 | exact P5 | exact P6 | exact P7) ((Reads.blk rfl).src (.head _)) rfl rfl (fun _ h => by cases h) (by omega) (by omega) (by decide)) rfl rfl ?_
      rintro _ _ ⟨ta2, tc2, rfl, rfl⟩
      repeat' (first | (refine IsO ?_; first | refine JO_nil ?_ | (refine IsBin ?_; first | refine B1 rfl rfl rfl rfl ?_ | refine B5 rfl rfl rfl rfl ?_ | refine B6 rfl rfl rfl rfl ?_) | (refine IsConv ?_; refine C1 rfl rfl rfl rfl rfl ?_) | (refine IsLoad ?_; first | refine L1 rfl rfl rfl rfl ?_ | refine L2 rfl rfl rfl rfl rfl ?_) | (refine IsStore ?_; refine S1 rfl rfl rfl rfl rfl rfl rfl (fun _ => ?_)) | (refine IsBox ?_; refine N1 rfl rfl rfl rfl (fun _ => ?_)) | (refine IsAlloc ?_; refine N2 rfl rfl rfl rfl (fun _ => ?_)) | (refine IsBuild ?_; refine U1 rfl rfl rfl rfl rfl rfl ?_) | refine V1 rfl rfl rfl ?_) | (refine IsAt ?_; first | (with_reducible first | refine T1 ?_ | refine T3 ?_ | refine T5 ?_ | refine T6 ?_) | ((with_reducible show At _ (PBlock _ _ (Exit.exit _)) _ _); refine At_block_hit ?_)) | (refine IsJ ?_; first | refine J_seq ?_ | refine J_region ?_ | refine J_block ?_ | refine J_skip ?_ | refine J_ret ?_ | refine J_exit ?_ | (refine IsCond ?_; first | refine K1 rfl ?_ | refine K2 rfl ?_ | refine J_cb rfl (fun _ => ?_) (fun _ => ?_))))
      refine At_round (i + 1, ws2, st2, a4, c4, os2, ta2, tc2) (by show ns.length - (i + 1) < ns.length - i; omega) ⟨by show i + 1 ≤ ns.length; omega, by dsimp only; rw [hlx1]; exact hB2⟩ (by repeat (first | exact True.intro | refine And.intro rfl ?_)) ?_
      intro H hl
      dsimp only
      rw [hlx1]
      have e : intsV (s.at_ ++ [(Tq : Int)]) = intsV s.at_ ++ [.int .i64 Tq] := List.map_append
      dsimp only
      rw [e]
      exact hl.pick (is := [0, 1, 2, 2, 2, 2, 2, 2, 2, 2]) rfl
  obtain rfl : i = ns.length := by omega
  obtain ⟨hLi, hLa, hLT, hLb⟩ := layG_i (ns := ns) (i := ns.length) (Nat.le_refl _)
  rw [List.take_length] at hLi hLa hLT hLb hB ⊢
  generalize layG ns = s at hLi hLa hLT hLb hB ⊢
  clear hB0
  have htn := hB.ht.tn
  have hLb2 : ∀ q ∈ s.at_, 0 ≤ q ∧ q ≤ 65536 := fun q hq => by have := hLb q hq; omega
  repeat' (first | (refine IsO ?_; first | refine JO_nil ?_ | (refine IsBin ?_; first | refine B1 rfl rfl rfl rfl ?_ | refine B5 rfl rfl rfl rfl ?_ | refine B6 rfl rfl rfl rfl ?_) | (refine IsConv ?_; refine C1 rfl rfl rfl rfl rfl ?_) | (refine IsLoad ?_; first | refine L1 rfl rfl rfl rfl ?_ | refine L2 rfl rfl rfl rfl rfl ?_) | (refine IsStore ?_; refine S1 rfl rfl rfl rfl rfl rfl rfl (fun _ => ?_)) | (refine IsBox ?_; refine N1 rfl rfl rfl rfl (fun _ => ?_)) | (refine IsAlloc ?_; refine N2 rfl rfl rfl rfl (fun _ => ?_)) | (refine IsBuild ?_; refine U1 rfl rfl rfl rfl rfl rfl ?_) | refine V1 rfl rfl rfl ?_) | (refine IsAt ?_; first | (with_reducible first | refine T1 ?_ | refine T3 ?_ | refine T5 ?_ | refine T6 ?_) | ((with_reducible show At _ (PBlock _ _ (Exit.exit _)) _ _); refine At_block_hit ?_)) | (refine IsJ ?_; first | refine J_seq ?_ | refine J_region ?_ | refine J_block ?_ | refine J_skip ?_ | refine J_ret ?_ | refine J_exit ?_ | (refine IsCond ?_; first | refine K1 rfl ?_ | refine K2 rfl ?_ | refine J_cb rfl (fun _ => ?_) (fun _ => ?_))))
  refine J_loop (α := Nat × List Int × Option Addr × Nat × List RO) (fun x => x.1 ≤ ns.length ∧ BInv n s.T x.2.1 st x.2.2.2.2 s.hs)
    (fun x => [(2, ptr bg 0), (4, .pointer none), (5, .slice none 0 0), (6, ptr b6 0), (10, ptr p 0), (12, ptr b12 0), (13, .slice ta ns.length tc), (118, .slice na ns.length nc), (119, .int .i64 ns.length), (120, .int .i64 x.1)])
    (fun x => [rowz 3 1 ta ns.length tc (intsV s.at_), blk b12 [.int .i64 n, .slice x.2.2.1 x.2.2.2.2.length x.2.2.2.1] 33] ++ heapL p bw bs n x.2.1 s.T st ++ refL x.2.2.1 x.2.2.2.1 x.2.2.2.2 ++ [blk b6 [.int .i64 0, .slice none 0 0] 33, blk bg [.slice na ns.length nc, .slice ra0 rs.length rc0] 25, R])
    (fun x => ns.length - x.1) (0, ws, a, cap, os) ⟨Nat.zero_le _, hB⟩ (by repeat (first | exact True.intro | refine And.intro rfl ?_)) (fun H hl => hl) ?_
  clear hB
  rintro ⟨i, ws, a, cap, os⟩ ⟨hi, hB⟩
  dsimp only at hi hB ⊢
  repeat' (first | (refine IsO ?_; first | refine JO_nil ?_ | (refine IsBin ?_; first | refine B1 rfl rfl rfl rfl ?_ | refine B5 rfl rfl rfl rfl ?_ | refine B6 rfl rfl rfl rfl ?_) | (refine IsConv ?_; refine C1 rfl rfl rfl rfl rfl ?_) | (refine IsLoad ?_; first | refine L1 rfl rfl rfl rfl ?_ | refine L2 rfl rfl rfl rfl rfl ?_) | (refine IsStore ?_; refine S1 rfl rfl rfl rfl rfl rfl rfl (fun _ => ?_)) | (refine IsBox ?_; refine N1 rfl rfl rfl rfl (fun _ => ?_)) | (refine IsAlloc ?_; refine N2 rfl rfl rfl rfl (fun _ => ?_)) | (refine IsBuild ?_; refine U1 rfl rfl rfl rfl rfl rfl ?_) | refine V1 rfl rfl rfl ?_) | (refine IsAt ?_; first | (with_reducible first | refine T1 ?_ | refine T3 ?_ | refine T5 ?_ | refine T6 ?_) | ((with_reducible show At _ (PBlock _ _ (Exit.exit _)) _ _); refine At_block_hit ?_)) | (refine IsJ ?_; first | refine J_seq ?_ | refine J_region ?_ | refine J_skip ?_ | refine J_ret ?_ | refine J_exit ?_ | (refine IsCond ?_; first | refine K1 rfl ?_ | refine K2 rfl ?_ | refine J_cb rfl (fun _ => ?_) (fun _ => ?_))))
  · rename_i hlt
    refine J_block ?_
    obtain ⟨y, hy⟩ : ∃ y, ns[i]? = some y := ⟨ns[i]'(by omega), List.getElem?_eq_getElem _⟩
    have hyo := hnd y (List.mem_of_getElem? hy)
    have hye := he10 y (List.mem_of_getElem? hy)
    have hnt := node_take hy
    clear hy
    obtain ⟨yk, es, ea, ec, ym⟩ := y
    obtain ⟨hk0, hk1, hm0, hm1, heb, hrd⟩ := hyo
    dsimp only at hk0 hk1 hm0 hm1 heb hrd hye hnt ⊢
    obtain ⟨q, hq⟩ : ∃ q, s.at_[i]? = some q := ⟨s.at_[i]'(by omega), List.getElem?_eq_getElem _⟩
    repeat' (first | (refine IsO ?_; first | refine JO_nil ?_ | (refine IsBin ?_; first | refine B1 rfl rfl rfl rfl ?_ | refine B5 rfl rfl rfl rfl ?_ | refine B6 rfl rfl rfl rfl ?_) | (refine IsConv ?_; refine C1 rfl rfl rfl rfl rfl ?_) | (refine IsLoad ?_; first | refine L1 rfl rfl rfl rfl ?_ | refine L2 rfl rfl rfl rfl rfl ?_) | (refine IsStore ?_; refine S1 rfl rfl rfl rfl rfl rfl rfl (fun _ => ?_)) | (refine IsBox ?_; refine N1 rfl rfl rfl rfl (fun _ => ?_)) | (refine IsAlloc ?_; refine N2 rfl rfl rfl rfl (fun _ => ?_)) | (refine IsBuild ?_; refine U1 rfl rfl rfl rfl rfl rfl ?_) | refine V1 rfl rfl rfl ?_) | (refine IsAt ?_; first | (with_reducible first | refine T1 ?_ | refine T3 ?_ | refine T5 ?_ | refine T6 ?_) | ((with_reducible show At _ (PBlock _ _ (Exit.exit _)) _ _); refine At_block_hit ?_)) | (refine IsJ ?_; first | refine J_seq ?_ | refine J_region ?_ | refine J_block ?_ | refine J_skip ?_ | refine J_ret ?_ | refine J_exit ?_ | (refine IsCond ?_; first | refine K1 rfl ?_ | refine K2 rfl ?_ | refine J_cb rfl (fun _ => ?_) (fun _ => ?_))))
    refine JO_fact _ (fun w hs => hrn.some (by omega) hs (by repeat (first | exact .head _ | refine .tail _ ?_))) ?_
    rintro ⟨b, o, rfl⟩
    refine JO_val (OV_idx (off := o + i * 3) rfl rfl rfl rfl (by omega) (by omega) (by simp)) rfl rfl ?_
    refine JO_q (OQ_readA hrn (by repeat (first | exact .head _ | refine .tail _ ?_)) rfl rfl rfl (by omega) hnt) rfl rfl ?_
    repeat' (first | (refine IsO ?_; first | refine JO_nil ?_ | (refine IsBin ?_; first | refine B1 rfl rfl rfl rfl ?_ | refine B5 rfl rfl rfl rfl ?_ | refine B6 rfl rfl rfl rfl ?_) | (refine IsConv ?_; refine C1 rfl rfl rfl rfl rfl ?_) | (refine IsLoad ?_; first | refine L1 rfl rfl rfl rfl ?_ | refine L2 rfl rfl rfl rfl rfl ?_) | (refine IsStore ?_; refine S1 rfl rfl rfl rfl rfl rfl rfl (fun _ => ?_)) | (refine IsBox ?_; refine N1 rfl rfl rfl rfl (fun _ => ?_)) | (refine IsAlloc ?_; refine N2 rfl rfl rfl rfl (fun _ => ?_)) | (refine IsBuild ?_; refine U1 rfl rfl rfl rfl rfl rfl ?_) | refine V1 rfl rfl rfl ?_) | (refine IsAt ?_; first | (with_reducible first | refine T1 ?_ | refine T3 ?_ | refine T5 ?_ | refine T6 ?_) | ((with_reducible show At _ (PBlock _ _ (Exit.exit _)) _ _); refine At_block_hit ?_)) | (refine IsJ ?_; first | refine J_seq ?_ | refine J_region ?_ | refine J_block ?_ | refine J_skip ?_ | refine J_ret ?_ | refine J_exit ?_ | (refine IsCond ?_; first | refine K1 rfl ?_ | refine K2 rfl ?_ | refine J_cb rfl (fun _ => ?_) (fun _ => ?_))))
    rename_i b21 _
    refine J_loop (α := Nat × List Int × Option Addr × Nat × List RO) (fun x => x.1 ≤ es.length ∧ BInv n s.T x.2.1 st x.2.2.2.2 s.hs)
      (fun x => [(2, ptr bg 0), (4, .pointer none), (5, .slice none 0 0), (6, ptr b6 0), (10, ptr p 0), (12, ptr b12 0), (13, .slice ta ns.length tc), (20, .int .i64 i), (21, ptr b21 0), (118, .slice (some ⟨b, o, none⟩) ns.length nc), (119, .int .i64 ns.length), (120, .int .i64 i), (126, .slice ea es.length ec), (127, .int .i64 es.length), (128, .int .i64 x.1)])
      (fun x => [blk b21 [.int .u8 yk, .slice ea es.length ec, .int .u8 ym] 78, rowz 3 1 ta ns.length tc (intsV s.at_), blk b12 [.int .i64 n, .slice x.2.2.1 x.2.2.2.2.length x.2.2.2.1] 33] ++ heapL p bw bs n x.2.1 s.T st ++ refL x.2.2.1 x.2.2.2.1 x.2.2.2.2 ++ [blk b6 [.int .i64 0, .slice none 0 0] 33, blk bg [.slice (some ⟨b, o, none⟩) ns.length nc, .slice ra0 rs.length rc0] 25, R])
      (fun x => es.length - x.1) (0, ws, a, cap, os) ⟨Nat.zero_le _, hB⟩ (by repeat (first | exact True.intro | refine And.intro rfl ?_)) (fun H hl => hl) ?_
    clear hB
    rintro ⟨k, ws, a, cap, os⟩ ⟨hk, hB⟩
    dsimp only at hk hB ⊢
    repeat' (first | (refine IsO ?_; first | refine JO_nil ?_ | (refine IsBin ?_; first | refine B1 rfl rfl rfl rfl ?_ | refine B5 rfl rfl rfl rfl ?_ | refine B6 rfl rfl rfl rfl ?_) | (refine IsConv ?_; refine C1 rfl rfl rfl rfl rfl ?_) | (refine IsLoad ?_; first | refine L1 rfl rfl rfl rfl ?_ | refine L2 rfl rfl rfl rfl rfl ?_) | (refine IsStore ?_; refine S1 rfl rfl rfl rfl rfl rfl rfl (fun _ => ?_)) | (refine IsBox ?_; refine N1 rfl rfl rfl rfl (fun _ => ?_)) | (refine IsAlloc ?_; refine N2 rfl rfl rfl rfl (fun _ => ?_)) | (refine IsBuild ?_; refine U1 rfl rfl rfl rfl rfl rfl ?_) | refine V1 rfl rfl rfl ?_) | (refine IsAt ?_; first | (with_reducible first | refine T1 ?_ | refine T3 ?_ | refine T5 ?_ | refine T6 ?_) | ((with_reducible show At _ (PBlock _ _ (Exit.exit _)) _ _); refine At_block_hit ?_)) | (refine IsJ ?_; first | refine J_seq ?_ | refine J_region ?_ | refine J_skip ?_ | refine J_ret ?_ | refine J_exit ?_ | (refine IsCond ?_; first | refine K1 rfl ?_ | refine K2 rfl ?_ | refine J_cb rfl (fun _ => ?_) (fun _ => ?_))))
    · rename_i hklt
      refine J_block ?_
      obtain ⟨e, he⟩ : ∃ e, es[k]? = some e := ⟨es[k]'(by omega), List.getElem?_eq_getElem _⟩
      obtain ⟨he0, he1⟩ := heb e (List.mem_of_getElem? he)
      repeat' (first | (refine IsO ?_; first | refine JO_nil ?_ | (refine IsBin ?_; first | refine B1 rfl rfl rfl rfl ?_ | refine B5 rfl rfl rfl rfl ?_ | refine B6 rfl rfl rfl rfl ?_) | (refine IsConv ?_; refine C1 rfl rfl rfl rfl rfl ?_) | (refine IsLoad ?_; first | refine L1 rfl rfl rfl rfl ?_ | refine L2 rfl rfl rfl rfl rfl ?_) | (refine IsStore ?_; refine S1 rfl rfl rfl rfl rfl rfl rfl (fun _ => ?_)) | (refine IsBox ?_; refine N1 rfl rfl rfl rfl (fun _ => ?_)) | (refine IsAlloc ?_; refine N2 rfl rfl rfl rfl (fun _ => ?_)) | (refine IsBuild ?_; refine U1 rfl rfl rfl rfl rfl rfl ?_) | refine V1 rfl rfl rfl ?_) | (refine IsAt ?_; first | (with_reducible first | refine T1 ?_ | refine T3 ?_ | refine T5 ?_ | refine T6 ?_) | ((with_reducible show At _ (PBlock _ _ (Exit.exit _)) _ _); refine At_block_hit ?_)) | (refine IsJ ?_; first | refine J_seq ?_ | refine J_region ?_ | refine J_block ?_ | refine J_skip ?_ | refine J_ret ?_ | refine J_exit ?_ | (refine IsCond ?_; first | refine K1 rfl ?_ | refine K2 rfl ?_ | refine J_cb rfl (fun _ => ?_) (fun _ => ?_))))
      refine JO_fact _ (fun w hs => hrd.some (by omega) hs (by repeat (first | exact .head _ | refine .tail _ ?_))) ?_
      rintro ⟨b1, o1, rfl⟩
      refine JO_val (OV_idx (off := o1 + k) rfl rfl rfl rfl (by omega) (by omega) (by simp)) rfl rfl ?_
      refine JO_q (OQ_read (v := .int .u8 e) hrd (by repeat (first | exact .head _ | refine .tail _ ?_)) rfl rfl (by omega) (by simp [u8V, he])) rfl rfl ?_
      repeat' (first | (refine IsO ?_; first | refine JO_nil ?_ | (refine IsBin ?_; first | refine B1 rfl rfl rfl rfl ?_ | refine B5 rfl rfl rfl rfl ?_ | refine B6 rfl rfl rfl rfl ?_) | (refine IsConv ?_; refine C1 rfl rfl rfl rfl rfl ?_) | (refine IsLoad ?_; first | refine L1 rfl rfl rfl rfl ?_ | refine L2 rfl rfl rfl rfl rfl ?_) | (refine IsStore ?_; refine S1 rfl rfl rfl rfl rfl rfl rfl (fun _ => ?_)) | (refine IsBox ?_; refine N1 rfl rfl rfl rfl (fun _ => ?_)) | (refine IsAlloc ?_; refine N2 rfl rfl rfl rfl (fun _ => ?_)) | (refine IsBuild ?_; refine U1 rfl rfl rfl rfl rfl rfl ?_) | refine V1 rfl rfl rfl ?_) | (refine IsAt ?_; first | (with_reducible first | refine T1 ?_ | refine T3 ?_ | refine T5 ?_ | refine T6 ?_) | ((with_reducible show At _ (PBlock _ _ (Exit.exit _)) _ _); refine At_block_hit ?_)) | (refine IsJ ?_; first | refine J_seq ?_ | refine J_region ?_ | refine J_block ?_ | refine J_skip ?_ | refine J_ret ?_ | refine J_exit ?_ | (refine IsCond ?_; first | refine K1 rfl ?_ | refine K2 rfl ?_ | refine J_cb rfl (fun _ => ?_) (fun _ => ?_))))
      refine J_rowzf P1 ?_
      rintro ⟨hl, hnn, hcc⟩
      have hR : Reads (rowz 3 1 ta ns.length tc (intsV s.at_)) 1 ns.length ta tc (intsV s.at_) := Reads.rowz hl hnn
      refine J_fact _ (fun w hs => hR.some (by omega) hs (by repeat (first | exact .head _ | refine .tail _ ?_))) ?_
      rintro ⟨bt, ot, rfl⟩
      have hpl : Does Try.prog 34 [.slice (some ⟨bt, ot, none⟩) ns.length tc, .int .u8 e] [rowz 3 1 (some ⟨bt, ot, none⟩) ns.length tc (intsV s.at_)] (fun v l => v = .int .i64 (plcI s.at_ e) ∧ l = [rowz 3 1 (some ⟨bt, ot, none⟩) ns.length tc (intsV s.at_)]) := by
        rw [← hLa] at hR ⊢
        exact place11_spec e he0 he1 (by omega) hLb2 hR
      obtain ⟨hw0, hw1⟩ := plcI_in (z := e) hLb2
      generalize plcI s.at_ e = word at hw0 hw1 hpl
      have h64 : In64 word := ⟨by omega, by omega⟩
      have hqv : (intsV s.at_)[i]? = some (.int .i64 q) := by simp [intsV, hq]
      refine J_plan [rowz 3 1 (some ⟨bt, ot, none⟩) ns.length tc (intsV s.at_)] (fun H hl => hl.pick (is := [1]) rfl) [0, 0, 0, 0, 5, 0, 0, 0, 2, 6]
        (.q 0 (.q 1 (.q 2 (.q 3 (.q 4 (.q 5 (.q 6 (.q 7 (.l1 8 (.l1 9 .fin)))))))))) (by kernel_rfl) (by kernel_rfl) ?_
      repeat' (refine IsF ?_; first | (refine JF_fin ?_; refine At_np ?_) | (refine JF_op rfl ?_; refine FsO ?_; first | (refine FsLoad ?_; refine FL2k rfl rfl rfl rfl rfl rfl ?_) | refine FV1 rfl rfl rfl ?_))
      refine JF_val rfl (OV_idx (off := ot + i) rfl rfl rfl rfl (by omega) (by omega) (by simp)) rfl rfl ?_
      refine JF_kept rfl rfl (OK_read (i := i) (v := .int .i64 q) hR (by repeat (first | exact .head _ | refine .tail _ ?_)) rfl rfl (by omega) hqv) rfl rfl ?_
      repeat' (refine IsF ?_; first | (refine JF_fin ?_; refine At_np ?_) | (refine JF_op rfl ?_; refine FsO ?_; first | (refine FsLoad ?_; refine FL2k rfl rfl rfl rfl rfl rfl ?_) | refine FV1 rfl rfl rfl ?_))
      refine JF_l1 (JFO_l rfl (OL_call [1] rfl rfl rfl hpl rfl) rfl rfl (.inr ?_) ?_)
      · rintro _ _ ⟨_, ⟨rfl, rfl⟩, rfl⟩ H hl
        exact hl.pick (is := [0]) rfl
      rintro _ _ ⟨_, ⟨rfl, rfl⟩, rfl⟩ _
      refine JF_l1 (JFO_l rfl (OL_call [3, 3, 3] rfl rfl rfl (Write_specT q k word hB.ht h64) rfl) rfl rfl (.inl rfl) ?_)
      rintro _ _ ⟨_, ⟨rfl, rfl⟩, rfl⟩ _
      repeat' (refine IsF ?_; first | (refine JF_fin ?_; refine At_np ?_) | (refine JF_op rfl ?_; refine FsO ?_; first | (refine FsLoad ?_; refine FL2k rfl rfl rfl rfl rfl rfl ?_) | refine FV1 rfl rfl rfl ?_))
      repeat' (first | (refine IsO ?_; first | refine JO_nil ?_ | (refine IsBin ?_; first | refine B1 rfl rfl rfl rfl ?_ | refine B5 rfl rfl rfl rfl ?_ | refine B6 rfl rfl rfl rfl ?_) | (refine IsConv ?_; refine C1 rfl rfl rfl rfl rfl ?_) | (refine IsLoad ?_; first | refine L1 rfl rfl rfl rfl ?_ | refine L2 rfl rfl rfl rfl rfl ?_) | (refine IsStore ?_; refine S1 rfl rfl rfl rfl rfl rfl rfl (fun _ => ?_)) | (refine IsBox ?_; refine N1 rfl rfl rfl rfl (fun _ => ?_)) | (refine IsAlloc ?_; refine N2 rfl rfl rfl rfl (fun _ => ?_)) | (refine IsBuild ?_; refine U1 rfl rfl rfl rfl rfl rfl ?_) | refine V1 rfl rfl rfl ?_) | (refine IsAt ?_; first | (with_reducible first | refine T1 ?_ | refine T3 ?_ | refine T5 ?_ | refine T6 ?_) | ((with_reducible show At _ (PBlock _ _ (Exit.exit _)) _ _); refine At_block_hit ?_)) | (refine IsJ ?_; first | refine J_seq ?_ | refine J_region ?_ | refine J_block ?_ | refine J_skip ?_ | refine J_ret ?_ | refine J_exit ?_ | (refine IsCond ?_; first | refine K1 rfl ?_ | refine K2 rfl ?_ | refine J_cb rfl (fun _ => ?_) (fun _ => ?_))))
      refine J_plan [blk b12 [.int .i64 n, .slice a os.length cap] 33, rowz 3 1 (some ⟨bt, ot, none⟩) ns.length tc (intsV s.at_)] (fun H hl => hl.pick (is := [5, 3]) rfl) [5, 0, 0, 0, 5, 0, 0, 0, 2, 2, 0, 0, 0, 6]
        (.q 0 (.q 1 (.q 2 (.q 3 (.q 4 (.q 5 (.q 6 (.q 7 (.l1 8 (.l1 9 (.q 10 (.q 11 (.q 12 (.l1 13 .fin)))))))))))))) (by kernel_rfl) (by kernel_rfl) ?_
      repeat' (refine IsF ?_; first | (refine JF_fin ?_; refine At_np ?_) | (refine JF_op rfl ?_; refine FsO ?_; first | (refine FsLoad ?_; refine FL2k rfl rfl rfl rfl rfl rfl ?_) | refine FV1 rfl rfl rfl ?_))
      refine JF_val rfl (OV_idx (off := ot + i) rfl rfl rfl rfl (by omega) (by omega) (by simp)) rfl rfl ?_
      refine JF_kept rfl rfl (OK_read (i := i) (v := .int .i64 q) hR (by repeat (first | exact .head _ | refine .tail _ ?_)) rfl rfl (by omega) hqv) rfl rfl ?_
      repeat' (refine IsF ?_; first | (refine JF_fin ?_; refine At_np ?_) | (refine JF_op rfl ?_; refine FsO ?_; first | (refine FsLoad ?_; refine FL2k rfl rfl rfl rfl rfl rfl ?_) | refine FV1 rfl rfl rfl ?_))
      refine JF_l1 (JFO_l rfl (OL_call [3] rfl rfl rfl hpl rfl) rfl rfl (.inr ?_) ?_)
      · rintro _ _ ⟨_, ⟨rfl, rfl⟩, rfl⟩ H hl
        exact hl.pick (is := [5, 0]) rfl
      rintro _ _ ⟨_, ⟨rfl, rfl⟩, rfl⟩ _
      refine JF_l1 (JFO_l rfl (OL_call [6, 6] rfl rfl rfl (refWrite_spec n q k word hB.ht hB.ch h64) rfl) rfl rfl (.inr ?_) ?_)
      · rintro _ _ ⟨_, ⟨a4, c4, os4, hc4, rfl, rfl⟩, rfl⟩ H hl
        exact hl.pick (is := [7, 2]) rfl
      rintro _ _ ⟨_, ⟨a4, c4, os4, hc4, rfl, rfl⟩, rfl⟩ _
      have hB2 := hB.write h64 hc4
      generalize writeW ws st q k word = ws2 at hB2
      repeat' (refine IsF ?_; first | (refine JF_fin ?_; refine At_np ?_) | (refine JF_op rfl ?_; refine FsO ?_; first | (refine FsLoad ?_; refine FL2k rfl rfl rfl rfl rfl rfl ?_) | refine FV1 rfl rfl rfl ?_))
      refine JF_l1 (JFO_l0 rfl (OL_store rfl rfl rfl rfl rfl rfl (by first | exact P0 | exact P1 | exact P2 | exact P3 | exact P4 | exact P5 | exact P6 | exact P7) (by rfl)) rfl (.inl rfl) ?_)
      rintro _ _ rfl _
      repeat' (refine IsF ?_; first | (refine JF_fin ?_; refine At_np ?_) | (refine JF_op rfl ?_; refine FsO ?_; first | (refine FsLoad ?_; refine FL2k rfl rfl rfl rfl rfl rfl ?_) | refine FV1 rfl rfl rfl ?_))
      repeat' (first | (refine IsO ?_; first | refine JO_nil ?_ | (refine IsBin ?_; first | refine B1 rfl rfl rfl rfl ?_ | refine B5 rfl rfl rfl rfl ?_ | refine B6 rfl rfl rfl rfl ?_) | (refine IsConv ?_; refine C1 rfl rfl rfl rfl rfl ?_) | (refine IsLoad ?_; first | refine L1 rfl rfl rfl rfl ?_ | refine L2 rfl rfl rfl rfl rfl ?_) | (refine IsStore ?_; refine S1 rfl rfl rfl rfl rfl rfl rfl (fun _ => ?_)) | (refine IsBox ?_; refine N1 rfl rfl rfl rfl (fun _ => ?_)) | (refine IsAlloc ?_; refine N2 rfl rfl rfl rfl (fun _ => ?_)) | (refine IsBuild ?_; refine U1 rfl rfl rfl rfl rfl rfl ?_) | refine V1 rfl rfl rfl ?_) | (refine IsAt ?_; first | (with_reducible first | refine T1 ?_ | refine T3 ?_ | refine T5 ?_ | refine T6 ?_) | ((with_reducible show At _ (PBlock _ _ (Exit.exit _)) _ _); refine At_block_hit ?_)) | (refine IsJ ?_; first | refine J_seq ?_ | refine J_region ?_ | refine J_block ?_ | refine J_skip ?_ | refine J_ret ?_ | refine J_exit ?_ | (refine IsCond ?_; first | refine K1 rfl ?_ | refine K2 rfl ?_ | refine J_cb rfl (fun _ => ?_) (fun _ => ?_))))
      exact At_round (k + 1, ws2, a4, c4, os4) (by show es.length - (k + 1) < es.length - k; omega) ⟨by show k + 1 ≤ es.length; omega, hB2⟩ (by repeat (first | exact True.intro | refine And.intro rfl ?_)) (fun H hl => hl.pick (is := [7, 3, 0, 2, 2, 2, 0, 0, 0, 0, 0]) rfl)
    obtain rfl : k = es.length := by omega
    obtain ⟨m3, hm3⟩ := Int.eq_ofNat_of_zero_le (show 0 ≤ ym % 4 by omega)
    rw [hm3]
    have hm34 : m3 < 4 := by omega
    repeat' (first | (refine IsO ?_; first | refine JO_nil ?_ | (refine IsBin ?_; first | refine B1 rfl rfl rfl rfl ?_ | refine B5 rfl rfl rfl rfl ?_ | refine B6 rfl rfl rfl rfl ?_) | (refine IsConv ?_; refine C1 rfl rfl rfl rfl rfl ?_) | (refine IsLoad ?_; first | refine L1 rfl rfl rfl rfl ?_ | refine L2 rfl rfl rfl rfl rfl ?_) | (refine IsStore ?_; refine S1 rfl rfl rfl rfl rfl rfl rfl (fun _ => ?_)) | (refine IsBox ?_; refine N1 rfl rfl rfl rfl (fun _ => ?_)) | (refine IsAlloc ?_; refine N2 rfl rfl rfl rfl (fun _ => ?_)) | (refine IsBuild ?_; refine U1 rfl rfl rfl rfl rfl rfl ?_) | refine V1 rfl rfl rfl ?_) | (refine IsAt ?_; first | (with_reducible first | refine T1 ?_ | refine T3 ?_ | refine T5 ?_ | refine T6 ?_) | ((with_reducible show At _ (PBlock _ _ (Exit.exit _)) _ _); refine At_block_hit ?_)) | (refine IsJ ?_; first | refine J_seq ?_ | refine J_region ?_ | refine J_block ?_ | refine J_skip ?_ | refine J_ret ?_ | refine J_exit ?_ | (refine IsCond ?_; first | refine K1 rfl ?_ | refine K2 rfl ?_ | refine J_cb rfl (fun _ => ?_) (fun _ => ?_))))
    refine J_loop (α := Nat × List Int × Option Addr × Nat × List RO) (fun x => x.1 ≤ m3 ∧ BInv n s.T x.2.1 st x.2.2.2.2 s.hs)
      (fun x => [(2, ptr bg 0), (4, .pointer none), (5, .slice none 0 0), (6, ptr b6 0), (10, ptr p 0), (12, ptr b12 0), (13, .slice ta ns.length tc), (20, .int .i64 i), (21, ptr b21 0), (118, .slice (some ⟨b, o, none⟩) ns.length nc), (119, .int .i64 ns.length), (120, .int .i64 i), (160, .int .i64 m3), (161, .int .i64 x.1)])
      (fun x => [blk b21 [.int .u8 yk, .slice ea es.length ec, .int .u8 ym] 78, rowz 3 1 ta ns.length tc (intsV s.at_), blk b12 [.int .i64 n, .slice x.2.2.1 x.2.2.2.2.length x.2.2.2.1] 33] ++ heapL p bw bs n x.2.1 s.T st ++ refL x.2.2.1 x.2.2.2.1 x.2.2.2.2 ++ [blk b6 [.int .i64 0, .slice none 0 0] 33, blk bg [.slice (some ⟨b, o, none⟩) ns.length nc, .slice ra0 rs.length rc0] 25, R])
      (fun x => m3 - x.1) (0, ws, a, cap, os) ⟨Nat.zero_le _, hB⟩ (by repeat (first | exact True.intro | refine And.intro rfl ?_)) (fun H hl => hl) ?_
    clear hB
    rintro ⟨k, ws, a, cap, os⟩ ⟨hk, hB⟩
    dsimp only at hk hB ⊢
    repeat' (first | (refine IsO ?_; first | refine JO_nil ?_ | (refine IsBin ?_; first | refine B1 rfl rfl rfl rfl ?_ | refine B5 rfl rfl rfl rfl ?_ | refine B6 rfl rfl rfl rfl ?_) | (refine IsConv ?_; refine C1 rfl rfl rfl rfl rfl ?_) | (refine IsLoad ?_; first | refine L1 rfl rfl rfl rfl ?_ | refine L2 rfl rfl rfl rfl rfl ?_) | (refine IsStore ?_; refine S1 rfl rfl rfl rfl rfl rfl rfl (fun _ => ?_)) | (refine IsBox ?_; refine N1 rfl rfl rfl rfl (fun _ => ?_)) | (refine IsAlloc ?_; refine N2 rfl rfl rfl rfl (fun _ => ?_)) | (refine IsBuild ?_; refine U1 rfl rfl rfl rfl rfl rfl ?_) | refine V1 rfl rfl rfl ?_) | (refine IsAt ?_; first | (with_reducible first | refine T1 ?_ | refine T3 ?_ | refine T5 ?_ | refine T6 ?_) | ((with_reducible show At _ (PBlock _ _ (Exit.exit _)) _ _); refine At_block_hit ?_)) | (refine IsJ ?_; first | refine J_seq ?_ | refine J_region ?_ | refine J_skip ?_ | refine J_ret ?_ | refine J_exit ?_ | (refine IsCond ?_; first | refine K1 rfl ?_ | refine K2 rfl ?_ | refine J_cb rfl (fun _ => ?_) (fun _ => ?_))))
    · rename_i hklt
      refine J_block ?_
      repeat' (first | (refine IsO ?_; first | refine JO_nil ?_ | (refine IsBin ?_; first | refine B1 rfl rfl rfl rfl ?_ | refine B5 rfl rfl rfl rfl ?_ | refine B6 rfl rfl rfl rfl ?_) | (refine IsConv ?_; refine C1 rfl rfl rfl rfl rfl ?_) | (refine IsLoad ?_; first | refine L1 rfl rfl rfl rfl ?_ | refine L2 rfl rfl rfl rfl rfl ?_) | (refine IsStore ?_; refine S1 rfl rfl rfl rfl rfl rfl rfl (fun _ => ?_)) | (refine IsBox ?_; refine N1 rfl rfl rfl rfl (fun _ => ?_)) | (refine IsAlloc ?_; refine N2 rfl rfl rfl rfl (fun _ => ?_)) | (refine IsBuild ?_; refine U1 rfl rfl rfl rfl rfl rfl ?_) | refine V1 rfl rfl rfl ?_) | (refine IsAt ?_; first | (with_reducible first | refine T1 ?_ | refine T3 ?_ | refine T5 ?_ | refine T6 ?_) | ((with_reducible show At _ (PBlock _ _ (Exit.exit _)) _ _); refine At_block_hit ?_)) | (refine IsJ ?_; first | refine J_seq ?_ | refine J_region ?_ | refine J_block ?_ | refine J_skip ?_ | refine J_ret ?_ | refine J_exit ?_ | (refine IsCond ?_; first | refine K1 rfl ?_ | refine K2 rfl ?_ | refine J_cb rfl (fun _ => ?_) (fun _ => ?_))))
      refine J_rowzf P1 ?_
      rintro ⟨hl, hnn, hcc⟩
      have hR : Reads (rowz 3 1 ta ns.length tc (intsV s.at_)) 1 ns.length ta tc (intsV s.at_) := Reads.rowz hl hnn
      refine J_fact _ (fun w hs => hR.some (by omega) hs (by repeat (first | exact .head _ | refine .tail _ ?_))) ?_
      rintro ⟨bt, ot, rfl⟩
      have hqv : (intsV s.at_)[i]? = some (.int .i64 q) := by simp [intsV, hq]
      have h64 : In64 (100 * (i : Int) + k) := ⟨by omega, by omega⟩
      have hf3 : (es.length : Int) + k = ((es.length + k : Nat) : Int) := by omega
      refine J_draw [0, 0, 0, 0, 1, 0, 1, 0, 0, 0, 0, 0, 0, 0, 2] (List.range 15) (by kernel_rfl) (by kernel_rfl) ?_
      repeat' (refine IsX ?_; first | (refine JX_nil ?_; refine At_np ?_) | (refine JX_op rfl ?_; refine XsO ?_; first | (refine XsBin ?_; first | refine XB1 rfl rfl rfl rfl rfl ?_ | refine XB3 rfl rfl rfl rfl rfl ?_) | (refine XsLoad ?_; first | refine XL1 rfl rfl rfl rfl rfl ?_ | refine XL2 rfl rfl rfl rfl rfl rfl ?_) | (refine XsStore ?_; refine XS1 rfl rfl rfl rfl rfl rfl rfl rfl (fun _ => ?_)) | refine XV1 rfl rfl rfl rfl ?_))
      refine JX_val rfl rfl (OV_idx (off := ot + i) rfl rfl rfl rfl (by omega) (by omega) (by simp)) rfl rfl ?_
      refine JX_q rfl rfl (OQ_read (i := i) (v := .int .i64 q) hR (by repeat (first | exact .head _ | refine .tail _ ?_)) rfl rfl (by omega) hqv) rfl rfl ?_
      repeat' (refine IsX ?_; first | (refine JX_nil ?_; refine At_np ?_) | (refine JX_op rfl ?_; refine XsO ?_; first | (refine XsBin ?_; first | refine XB1 rfl rfl rfl rfl rfl ?_ | refine XB3 rfl rfl rfl rfl rfl ?_) | (refine XsLoad ?_; first | refine XL1 rfl rfl rfl rfl rfl ?_ | refine XL2 rfl rfl rfl rfl rfl rfl ?_) | (refine XsStore ?_; refine XS1 rfl rfl rfl rfl rfl rfl rfl rfl (fun _ => ?_)) | refine XV1 rfl rfl rfl rfl ?_))
      obtain ⟨word, hwd⟩ : ∃ word, word = 100 * (i : Int) + k := ⟨_, rfl⟩
      rw [← hwd] at h64
      rw [hf3, ← hwd]
      refine JX_l rfl rfl (OL_call [3, 3, 3] rfl rfl rfl (Write_specT q (es.length + k : Nat) word hB.ht h64) rfl) rfl rfl ?_
      rintro _ _ ⟨_, ⟨rfl, rfl⟩, rfl⟩
      repeat' (refine IsX ?_; first | (refine JX_nil ?_; refine At_np ?_) | (refine JX_op rfl ?_; refine XsO ?_; first | (refine XsBin ?_; first | refine XB1 rfl rfl rfl rfl rfl ?_ | refine XB3 rfl rfl rfl rfl rfl ?_) | (refine XsLoad ?_; first | refine XL1 rfl rfl rfl rfl rfl ?_ | refine XL2 rfl rfl rfl rfl rfl rfl ?_) | (refine XsStore ?_; refine XS1 rfl rfl rfl rfl rfl rfl rfl rfl (fun _ => ?_)) | refine XV1 rfl rfl rfl rfl ?_))
      repeat' (first | (refine IsO ?_; first | refine JO_nil ?_ | (refine IsBin ?_; first | refine B1 rfl rfl rfl rfl ?_ | refine B5 rfl rfl rfl rfl ?_ | refine B6 rfl rfl rfl rfl ?_) | (refine IsConv ?_; refine C1 rfl rfl rfl rfl rfl ?_) | (refine IsLoad ?_; first | refine L1 rfl rfl rfl rfl ?_ | refine L2 rfl rfl rfl rfl rfl ?_) | (refine IsStore ?_; refine S1 rfl rfl rfl rfl rfl rfl rfl (fun _ => ?_)) | (refine IsBox ?_; refine N1 rfl rfl rfl rfl (fun _ => ?_)) | (refine IsAlloc ?_; refine N2 rfl rfl rfl rfl (fun _ => ?_)) | (refine IsBuild ?_; refine U1 rfl rfl rfl rfl rfl rfl ?_) | refine V1 rfl rfl rfl ?_) | (refine IsAt ?_; first | (with_reducible first | refine T1 ?_ | refine T3 ?_ | refine T5 ?_ | refine T6 ?_) | ((with_reducible show At _ (PBlock _ _ (Exit.exit _)) _ _); refine At_block_hit ?_)) | (refine IsJ ?_; first | refine J_seq ?_ | refine J_region ?_ | refine J_block ?_ | refine J_skip ?_ | refine J_ret ?_ | refine J_exit ?_ | (refine IsCond ?_; first | refine K1 rfl ?_ | refine K2 rfl ?_ | refine J_cb rfl (fun _ => ?_) (fun _ => ?_))))
      refine J_draw [1, 0, 0, 0, 1, 0, 1, 0, 0, 0, 0, 0, 0, 0, 2, 0, 0, 0, 2] (List.range 19) (by kernel_rfl) (by kernel_rfl) ?_
      repeat' (refine IsX ?_; first | (refine JX_nil ?_; refine At_np ?_) | (refine JX_op rfl ?_; refine XsO ?_; first | (refine XsBin ?_; first | refine XB1 rfl rfl rfl rfl rfl ?_ | refine XB3 rfl rfl rfl rfl rfl ?_) | (refine XsLoad ?_; first | refine XL1 rfl rfl rfl rfl rfl ?_ | refine XL2 rfl rfl rfl rfl rfl rfl ?_) | (refine XsStore ?_; refine XS1 rfl rfl rfl rfl rfl rfl rfl rfl (fun _ => ?_)) | refine XV1 rfl rfl rfl rfl ?_))
      refine JX_val rfl rfl (OV_idx (off := ot + i) rfl rfl rfl rfl (by omega) (by omega) (by simp)) rfl rfl ?_
      refine JX_q rfl rfl (OQ_read (i := i) (v := .int .i64 q) hR (by repeat (first | exact .head _ | refine .tail _ ?_)) rfl rfl (by omega) hqv) rfl rfl ?_
      repeat' (refine IsX ?_; first | (refine JX_nil ?_; refine At_np ?_) | (refine JX_op rfl ?_; refine XsO ?_; first | (refine XsBin ?_; first | refine XB1 rfl rfl rfl rfl rfl ?_ | refine XB3 rfl rfl rfl rfl rfl ?_) | (refine XsLoad ?_; first | refine XL1 rfl rfl rfl rfl rfl ?_ | refine XL2 rfl rfl rfl rfl rfl rfl ?_) | (refine XsStore ?_; refine XS1 rfl rfl rfl rfl rfl rfl rfl rfl (fun _ => ?_)) | refine XV1 rfl rfl rfl rfl ?_))
      rw [hf3, ← hwd]
      refine JX_l rfl rfl (OL_call [6, 6] rfl rfl rfl (refWrite_spec n q (es.length + k : Nat) word hB.ht hB.ch h64) rfl) rfl rfl ?_
      rintro _ _ ⟨_, ⟨a4, c4, os4, hc4, rfl, rfl⟩, rfl⟩
      have hB2 := hB.write h64 hc4
      generalize writeW ws st q (es.length + k : Nat) word = ws2 at hB2
      repeat' (refine IsX ?_; first | (refine JX_nil ?_; refine At_np ?_) | (refine JX_op rfl ?_; refine XsO ?_; first | (refine XsBin ?_; first | refine XB1 rfl rfl rfl rfl rfl ?_ | refine XB3 rfl rfl rfl rfl rfl ?_) | (refine XsLoad ?_; first | refine XL1 rfl rfl rfl rfl rfl ?_ | refine XL2 rfl rfl rfl rfl rfl rfl ?_) | (refine XsStore ?_; refine XS1 rfl rfl rfl rfl rfl rfl rfl rfl (fun _ => ?_)) | refine XV1 rfl rfl rfl rfl ?_))
      repeat' (first | (refine IsO ?_; first | refine JO_nil ?_ | (refine IsBin ?_; first | refine B1 rfl rfl rfl rfl ?_ | refine B5 rfl rfl rfl rfl ?_ | refine B6 rfl rfl rfl rfl ?_) | (refine IsConv ?_; refine C1 rfl rfl rfl rfl rfl ?_) | (refine IsLoad ?_; first | refine L1 rfl rfl rfl rfl ?_ | refine L2 rfl rfl rfl rfl rfl ?_) | (refine IsStore ?_; refine S1 rfl rfl rfl rfl rfl rfl rfl (fun _ => ?_)) | (refine IsBox ?_; refine N1 rfl rfl rfl rfl (fun _ => ?_)) | (refine IsAlloc ?_; refine N2 rfl rfl rfl rfl (fun _ => ?_)) | (refine IsBuild ?_; refine U1 rfl rfl rfl rfl rfl rfl ?_) | refine V1 rfl rfl rfl ?_) | (refine IsAt ?_; first | (with_reducible first | refine T1 ?_ | refine T3 ?_ | refine T5 ?_ | refine T6 ?_) | ((with_reducible show At _ (PBlock _ _ (Exit.exit _)) _ _); refine At_block_hit ?_)) | (refine IsJ ?_; first | refine J_seq ?_ | refine J_region ?_ | refine J_block ?_ | refine J_skip ?_ | refine J_ret ?_ | refine J_exit ?_ | (refine IsCond ?_; first | refine K1 rfl ?_ | refine K2 rfl ?_ | refine J_cb rfl (fun _ => ?_) (fun _ => ?_))))
      exact At_round (k + 1, ws2, a4, c4, os4) (by show m3 - (k + 1) < m3 - k; omega) ⟨by show k + 1 ≤ m3; omega, hB2⟩ (by repeat (first | exact True.intro | refine And.intro rfl ?_)) (fun H hl => hl.pick (is := [6, 6, 0, 2, 2, 2, 0, 0, 0, 0, 0]) rfl)
    · repeat' (first | (refine IsO ?_; first | refine JO_nil ?_ | (refine IsBin ?_; first | refine B1 rfl rfl rfl rfl ?_ | refine B5 rfl rfl rfl rfl ?_ | refine B6 rfl rfl rfl rfl ?_) | (refine IsConv ?_; refine C1 rfl rfl rfl rfl rfl ?_) | (refine IsLoad ?_; first | refine L1 rfl rfl rfl rfl ?_ | refine L2 rfl rfl rfl rfl rfl ?_) | (refine IsStore ?_; refine S1 rfl rfl rfl rfl rfl rfl rfl (fun _ => ?_)) | (refine IsBox ?_; refine N1 rfl rfl rfl rfl (fun _ => ?_)) | (refine IsAlloc ?_; refine N2 rfl rfl rfl rfl (fun _ => ?_)) | (refine IsBuild ?_; refine U1 rfl rfl rfl rfl rfl rfl ?_) | refine V1 rfl rfl rfl ?_) | (refine IsAt ?_; first | (with_reducible first | refine T1 ?_ | refine T3 ?_ | refine T5 ?_ | refine T6 ?_) | ((with_reducible show At _ (PBlock _ _ (Exit.exit _)) _ _); refine At_block_hit ?_)) | (refine IsJ ?_; first | refine J_seq ?_ | refine J_region ?_ | refine J_block ?_ | refine J_skip ?_ | refine J_ret ?_ | refine J_exit ?_ | (refine IsCond ?_; first | refine K1 rfl ?_ | refine K2 rfl ?_ | refine J_cb rfl (fun _ => ?_) (fun _ => ?_))))
      exact At_round (i + 1, ws, a, cap, os) (by show ns.length - (i + 1) < ns.length - i; omega) ⟨by show i + 1 ≤ ns.length; omega, hB⟩ (by repeat (first | exact True.intro | refine And.intro rfl ?_)) (fun H hl => hl.tail)
  repeat' (first | (refine IsO ?_; first | refine JO_nil ?_ | (refine IsBin ?_; first | refine B1 rfl rfl rfl rfl ?_ | refine B5 rfl rfl rfl rfl ?_ | refine B6 rfl rfl rfl rfl ?_) | (refine IsConv ?_; refine C1 rfl rfl rfl rfl rfl ?_) | (refine IsLoad ?_; first | refine L1 rfl rfl rfl rfl ?_ | refine L2 rfl rfl rfl rfl rfl ?_) | (refine IsStore ?_; refine S1 rfl rfl rfl rfl rfl rfl rfl (fun _ => ?_)) | (refine IsBox ?_; refine N1 rfl rfl rfl rfl (fun _ => ?_)) | (refine IsAlloc ?_; refine N2 rfl rfl rfl rfl (fun _ => ?_)) | (refine IsBuild ?_; refine U1 rfl rfl rfl rfl rfl rfl ?_) | refine V1 rfl rfl rfl ?_) | (refine IsAt ?_; first | (with_reducible first | refine T1 ?_ | refine T3 ?_ | refine T5 ?_ | refine T6 ?_) | ((with_reducible show At _ (PBlock _ _ (Exit.exit _)) _ _); refine At_block_hit ?_)) | (refine IsJ ?_; first | refine J_seq ?_ | refine J_region ?_ | refine J_block ?_ | refine J_skip ?_ | refine J_ret ?_ | refine J_exit ?_ | (refine IsCond ?_; first | refine K1 rfl ?_ | refine K2 rfl ?_ | refine J_cb rfl (fun _ => ?_) (fun _ => ?_))))
  refine J_loop (α := Nat × Option Addr × Nat) (fun x => x.1 ≤ rs.length)
    (fun x => [(4, .pointer none), (5, .slice none 0 0), (6, ptr b6 0), (10, ptr p 0), (12, ptr b12 0), (13, .slice ta ns.length tc), (25, .slice x.2.1 x.1 x.2.2), (200, .slice ra0 rs.length rc0), (201, .int .i64 rs.length), (202, .int .i64 x.1)])
    (fun x => [rowz 3 1 x.2.1 x.1 x.2.2 (intsV ((rs.take x.1).map (plcI s.at_))), rowz 3 1 ta ns.length tc (intsV s.at_), blk b12 [.int .i64 n, .slice a os.length cap] 33] ++ heapL p bw bs n ws s.T st ++ refL a cap os ++ [blk b6 [.int .i64 0, .slice none 0 0] 33, R])
    (fun x => rs.length - x.1) (0, none, 0) (Nat.zero_le _) (by repeat (first | exact True.intro | refine And.intro rfl ?_)) (fun H hl => (rowz_nil (T := 3) (sz := 1) (a := none) hl).pick (is := [0, 0, 0, 0, 0, 0, 0, 0, 0, 1]) rfl) ?_
  rintro ⟨k, ra, rc⟩ hk
  dsimp only at hk ⊢
  repeat' (first | (refine IsO ?_; first | refine JO_nil ?_ | (refine IsBin ?_; first | refine B1 rfl rfl rfl rfl ?_ | refine B5 rfl rfl rfl rfl ?_ | refine B6 rfl rfl rfl rfl ?_) | (refine IsConv ?_; refine C1 rfl rfl rfl rfl rfl ?_) | (refine IsLoad ?_; first | refine L1 rfl rfl rfl rfl ?_ | refine L2 rfl rfl rfl rfl rfl ?_) | (refine IsStore ?_; refine S1 rfl rfl rfl rfl rfl rfl rfl (fun _ => ?_)) | (refine IsBox ?_; refine N1 rfl rfl rfl rfl (fun _ => ?_)) | (refine IsAlloc ?_; refine N2 rfl rfl rfl rfl (fun _ => ?_)) | (refine IsBuild ?_; refine U1 rfl rfl rfl rfl rfl rfl ?_) | refine V1 rfl rfl rfl ?_) | (refine IsAt ?_; first | (with_reducible first | refine T1 ?_ | refine T3 ?_ | refine T5 ?_ | refine T6 ?_) | ((with_reducible show At _ (PBlock _ _ (Exit.exit _)) _ _); refine At_block_hit ?_)) | (refine IsJ ?_; first | refine J_seq ?_ | refine J_region ?_ | refine J_skip ?_ | refine J_ret ?_ | refine J_exit ?_ | (refine IsCond ?_; first | refine K1 rfl ?_ | refine K2 rfl ?_ | refine J_cb rfl (fun _ => ?_) (fun _ => ?_))))
  · rename_i hklt
    refine J_block ?_
    obtain ⟨e, he⟩ : ∃ e, rs[k]? = some e := ⟨rs[k]'(by omega), List.getElem?_eq_getElem _⟩
    obtain ⟨he0, he1⟩ := hrb e (List.mem_of_getElem? he)
    repeat' (first | (refine IsO ?_; first | refine JO_nil ?_ | (refine IsBin ?_; first | refine B1 rfl rfl rfl rfl ?_ | refine B5 rfl rfl rfl rfl ?_ | refine B6 rfl rfl rfl rfl ?_) | (refine IsConv ?_; refine C1 rfl rfl rfl rfl rfl ?_) | (refine IsLoad ?_; first | refine L1 rfl rfl rfl rfl ?_ | refine L2 rfl rfl rfl rfl rfl ?_) | (refine IsStore ?_; refine S1 rfl rfl rfl rfl rfl rfl rfl (fun _ => ?_)) | (refine IsBox ?_; refine N1 rfl rfl rfl rfl (fun _ => ?_)) | (refine IsAlloc ?_; refine N2 rfl rfl rfl rfl (fun _ => ?_)) | (refine IsBuild ?_; refine U1 rfl rfl rfl rfl rfl rfl ?_) | refine V1 rfl rfl rfl ?_) | (refine IsAt ?_; first | (with_reducible first | refine T1 ?_ | refine T3 ?_ | refine T5 ?_ | refine T6 ?_) | ((with_reducible show At _ (PBlock _ _ (Exit.exit _)) _ _); refine At_block_hit ?_)) | (refine IsJ ?_; first | refine J_seq ?_ | refine J_region ?_ | refine J_block ?_ | refine J_skip ?_ | refine J_ret ?_ | refine J_exit ?_ | (refine IsCond ?_; first | refine K1 rfl ?_ | refine K2 rfl ?_ | refine J_cb rfl (fun _ => ?_) (fun _ => ?_))))
    refine JO_fact _ (fun w hs => hrr.some (by omega) hs (by repeat (first | exact .head _ | refine .tail _ ?_))) ?_
    rintro ⟨b1, o1, rfl⟩
    refine JO_val (OV_idx (off := o1 + k) rfl rfl rfl rfl (by omega) (by omega) (by simp)) rfl rfl ?_
    refine JO_q (OQ_read (v := .int .u8 e) hrr (by repeat (first | exact .head _ | refine .tail _ ?_)) rfl rfl (by omega) (by simp [u8V, he])) rfl rfl ?_
    repeat' (first | (refine IsO ?_; first | refine JO_nil ?_ | (refine IsBin ?_; first | refine B1 rfl rfl rfl rfl ?_ | refine B5 rfl rfl rfl rfl ?_ | refine B6 rfl rfl rfl rfl ?_) | (refine IsConv ?_; refine C1 rfl rfl rfl rfl rfl ?_) | (refine IsLoad ?_; first | refine L1 rfl rfl rfl rfl ?_ | refine L2 rfl rfl rfl rfl rfl ?_) | (refine IsStore ?_; refine S1 rfl rfl rfl rfl rfl rfl rfl (fun _ => ?_)) | (refine IsBox ?_; refine N1 rfl rfl rfl rfl (fun _ => ?_)) | (refine IsAlloc ?_; refine N2 rfl rfl rfl rfl (fun _ => ?_)) | (refine IsBuild ?_; refine U1 rfl rfl rfl rfl rfl rfl ?_) | refine V1 rfl rfl rfl ?_) | (refine IsAt ?_; first | (with_reducible first | refine T1 ?_ | refine T3 ?_ | refine T5 ?_ | refine T6 ?_) | ((with_reducible show At _ (PBlock _ _ (Exit.exit _)) _ _); refine At_block_hit ?_)) | (refine IsJ ?_; first | refine J_seq ?_ | refine J_region ?_ | refine J_block ?_ | refine J_skip ?_ | refine J_ret ?_ | refine J_exit ?_ | (refine IsCond ?_; first | refine K1 rfl ?_ | refine K2 rfl ?_ | refine J_cb rfl (fun _ => ?_) (fun _ => ?_))))
    refine JO_fact _ (fun w hs => rowz_len (T := 3) (sz := 1) (m := ns.length) (cap := tc) (a := ta) (cs := intsV s.at_) hs (by repeat (first | exact .head _ | refine .tail _ ?_))) ?_
    rintro ⟨hl, hnn, hcc⟩
    have hR : Reads (rowz 3 1 ta ns.length tc (intsV s.at_)) 1 ns.length ta tc (intsV s.at_) := Reads.rowz hl hnn
    have hpl : Does Try.prog 34 [.slice ta ns.length tc, .int .u8 e] [rowz 3 1 ta ns.length tc (intsV s.at_)] (fun v l => v = .int .i64 (plcI s.at_ e) ∧ l = [rowz 3 1 ta ns.length tc (intsV s.at_)]) := by
      rw [← hLa] at hR ⊢
      exact place11_spec e he0 he1 (by omega) hLb2 hR
    have hnx : intsV ((rs.take (k + 1)).map (plcI s.at_)) = intsV ((rs.take k).map (plcI s.at_)) ++ [.int .i64 (plcI s.at_ e)] := by
      rw [take_next he, List.map_append]
      exact List.map_append
    generalize plcI s.at_ e = word at hpl hnx
    refine JO_l (OL_call [1] rfl rfl rfl (hpl) rfl) rfl rfl ?_; rintro _ _ ⟨_, ⟨rfl, rfl⟩, rfl⟩
    refine JO_l (OL_buildSlice (cs := [.int .i64 word]) rfl rfl rfl rfl rfl rfl rfl rfl) rfl rfl ?_
    rintro _ _ ⟨bb, rfl, rfl⟩
    refine JO_l (OL_appendr (m := 1) rfl rfl rfl rfl rfl P2 ((Reads.blk rfl).src (.head _)) rfl rfl (fun _ h => by cases h) (by omega) (by omega) (by decide)) rfl rfl ?_
    rintro _ _ ⟨ta2, tc2, rfl, rfl⟩
    repeat' (first | (refine IsO ?_; first | refine JO_nil ?_ | (refine IsBin ?_; first | refine B1 rfl rfl rfl rfl ?_ | refine B5 rfl rfl rfl rfl ?_ | refine B6 rfl rfl rfl rfl ?_) | (refine IsConv ?_; refine C1 rfl rfl rfl rfl rfl ?_) | (refine IsLoad ?_; first | refine L1 rfl rfl rfl rfl ?_ | refine L2 rfl rfl rfl rfl rfl ?_) | (refine IsStore ?_; refine S1 rfl rfl rfl rfl rfl rfl rfl (fun _ => ?_)) | (refine IsBox ?_; refine N1 rfl rfl rfl rfl (fun _ => ?_)) | (refine IsAlloc ?_; refine N2 rfl rfl rfl rfl (fun _ => ?_)) | (refine IsBuild ?_; refine U1 rfl rfl rfl rfl rfl rfl ?_) | refine V1 rfl rfl rfl ?_) | (refine IsAt ?_; first | (with_reducible first | refine T1 ?_ | refine T3 ?_ | refine T5 ?_ | refine T6 ?_) | ((with_reducible show At _ (PBlock _ _ (Exit.exit _)) _ _); refine At_block_hit ?_)) | (refine IsJ ?_; first | refine J_seq ?_ | refine J_region ?_ | refine J_block ?_ | refine J_skip ?_ | refine J_ret ?_ | refine J_exit ?_ | (refine IsCond ?_; first | refine K1 rfl ?_ | refine K2 rfl ?_ | refine J_cb rfl (fun _ => ?_) (fun _ => ?_))))
    refine At_round (k + 1, ta2, tc2) (by show rs.length - (k + 1) < rs.length - k; omega) (by show k + 1 ≤ rs.length; omega) (by repeat (first | exact True.intro | refine And.intro rfl ?_)) ?_
    intro H hl
    dsimp only
    rw [hnx]
    exact hl.pick (is := [0, 1, 1, 1, 1, 1, 1, 1, 1, 1]) rfl
  obtain rfl : k = rs.length := by omega
  rw [List.take_length]
  repeat' (first | (refine IsO ?_; first | refine JO_nil ?_ | (refine IsBin ?_; first | refine B1 rfl rfl rfl rfl ?_ | refine B5 rfl rfl rfl rfl ?_ | refine B6 rfl rfl rfl rfl ?_) | (refine IsConv ?_; refine C1 rfl rfl rfl rfl rfl ?_) | (refine IsLoad ?_; first | refine L1 rfl rfl rfl rfl ?_ | refine L2 rfl rfl rfl rfl rfl ?_) | (refine IsStore ?_; refine S1 rfl rfl rfl rfl rfl rfl rfl (fun _ => ?_)) | (refine IsBox ?_; refine N1 rfl rfl rfl rfl (fun _ => ?_)) | (refine IsAlloc ?_; refine N2 rfl rfl rfl rfl (fun _ => ?_)) | (refine IsBuild ?_; refine U1 rfl rfl rfl rfl rfl rfl ?_) | refine V1 rfl rfl rfl ?_) | (refine IsAt ?_; first | (with_reducible first | refine T1 ?_ | refine T3 ?_ | refine T5 ?_ | refine T6 ?_) | ((with_reducible show At _ (PBlock _ _ (Exit.exit _)) _ _); refine At_block_hit ?_)) | (refine IsJ ?_; first | refine J_seq ?_ | refine J_region ?_ | refine J_block ?_ | refine J_skip ?_ | refine J_ret ?_ | refine J_exit ?_ | (refine IsCond ?_; first | refine K1 rfl ?_ | refine K2 rfl ?_ | refine J_cb rfl (fun _ => ?_) (fun _ => ?_))))
  refine J_draw [0, 0, 1, 0, 0, 2] (List.range 6) (by kernel_rfl) (by kernel_rfl) ?_
  repeat' (refine IsX ?_; first | (refine JX_nil ?_; refine At_np ?_) | (refine JX_op rfl ?_; refine XsO ?_; first | (refine XsBin ?_; first | refine XB1 rfl rfl rfl rfl rfl ?_ | refine XB3 rfl rfl rfl rfl rfl ?_) | (refine XsLoad ?_; first | refine XL1 rfl rfl rfl rfl rfl ?_ | refine XL2 rfl rfl rfl rfl rfl rfl ?_) | (refine XsStore ?_; refine XS1 rfl rfl rfl rfl rfl rfl rfl rfl (fun _ => ?_)) | refine XV1 rfl rfl rfl rfl ?_))
  refine JX_l0 rfl rfl (OL_store rfl rfl rfl rfl rfl rfl (i := 8) rfl (by rfl)) rfl ?_
  rintro _ _ rfl
  repeat' (refine IsX ?_; first | (refine JX_nil ?_; refine At_np ?_) | (refine JX_op rfl ?_; refine XsO ?_; first | (refine XsBin ?_; first | refine XB1 rfl rfl rfl rfl rfl ?_ | refine XB3 rfl rfl rfl rfl rfl ?_) | (refine XsLoad ?_; first | refine XL1 rfl rfl rfl rfl rfl ?_ | refine XL2 rfl rfl rfl rfl rfl rfl ?_) | (refine XsStore ?_; refine XS1 rfl rfl rfl rfl rfl rfl rfl rfl (fun _ => ?_)) | refine XV1 rfl rfl rfl rfl ?_))
  repeat' (first | (refine IsO ?_; first | refine JO_nil ?_ | (refine IsBin ?_; first | refine B1 rfl rfl rfl rfl ?_ | refine B5 rfl rfl rfl rfl ?_ | refine B6 rfl rfl rfl rfl ?_) | (refine IsConv ?_; refine C1 rfl rfl rfl rfl rfl ?_) | (refine IsLoad ?_; first | refine L1 rfl rfl rfl rfl ?_ | refine L2 rfl rfl rfl rfl rfl ?_) | (refine IsStore ?_; refine S1 rfl rfl rfl rfl rfl rfl rfl (fun _ => ?_)) | (refine IsBox ?_; refine N1 rfl rfl rfl rfl (fun _ => ?_)) | (refine IsAlloc ?_; refine N2 rfl rfl rfl rfl (fun _ => ?_)) | (refine IsBuild ?_; refine U1 rfl rfl rfl rfl rfl rfl ?_) | refine V1 rfl rfl rfl ?_) | (refine IsAt ?_; first | (with_reducible first | refine T1 ?_ | refine T3 ?_ | refine T5 ?_ | refine T6 ?_) | ((with_reducible show At _ (PBlock _ _ (Exit.exit _)) _ _); refine At_block_hit ?_)) | (refine IsJ ?_; first | refine J_seq ?_ | refine J_region ?_ | refine J_block ?_ | refine J_skip ?_ | refine J_ret ?_ | refine J_exit ?_ | (refine IsCond ?_; first | refine K1 rfl ?_ | refine K2 rfl ?_ | refine J_cb rfl (fun _ => ?_) (fun _ => ?_))))
  exact At_ret rfl rfl (.tmp rfl (.tmp rfl (.agg rfl rfl rfl (by repeat (first | exact .head _ | refine .tail _ ?_)) rfl .nil))) rfl (is := [4, 4, 4, 4, 4, 1, 3]) rfl ⟨p, bw, bs, n, s.T, ws, st, a, cap, os, ra, rc, hB, rfl, rfl, rfl, rfl⟩
end Go.Proofs.Ytahfnbpbdnmggaa
/-
  Our own, over any program: operations on 64-bit words: shifts, and, or.
-/
set_option linter.unusedVariables false
set_option linter.unusedSimpArgs false
namespace Go.Sep
open Go.RowKit
section ops
variable {C : Ctx} {g : Regs} {t t' : TypeId} {x y : Operand} {a b n : Nat}
theorem OV_binr {op : BinOp} {k k' : IntKind} {m q : Int} {v : Value} (hx : ev g x = some (.int k m)) (hy : ev g y = some (.int k' q)) (h : ∀ w, (binOp op t (.int k m) (.int k' q)).run C.P w = .ok v w) : OpV C g (.binOp op t x y t') v := by
  refine ⟨(by intro c h; cases h), fun d ty pos af gd ac w hf => ?_⟩
  simp only [execOp, hf.ev hx, hf.ev hy]
  rw [Sem.run_bind, run_guarded (h w)]
  rfl
theorem OV_shrU {k : IntKind} (hx : ev g x = some (.int .u64 (a : Int))) (hy : ev g y = some (.int k (n : Int))) (hn : n ≤ 64) : OpV C g (.binOp .shr t x y t') (.int .u64 ((a / 2 ^ n : Nat) : Int)) := by
  refine OV_binr hx hy fun w => ?_
  rw [binOp_shr, shift_shr_any _ _ _ _ (by omega)]
  have e : min ((n : Int)).toNat (IntKind.u64).bits = n := by
    show min ((n : Int)).toNat 64 = n
    omega
  rw [e]
  have e2 : (a : Int) / 2 ^ n = ((a / 2 ^ n : Nat) : Int) := by simp
  rw [e2]
  rfl
theorem OV_shlU {k : IntKind} (hx : ev g x = some (.int .u64 (a : Int))) (hy : ev g y = some (.int k (n : Int))) (hn : n ≤ 64) (hb : a * 2 ^ n < 18446744073709551616) : OpV C g (.binOp .shl t x y t') (.int .u64 ((a * 2 ^ n : Nat) : Int)) := by
  refine OV_binr hx hy fun w => ?_
  rw [binOp_shl, shift_shl_any _ _ _ _ (by omega)]
  have e : min ((n : Int)).toNat (IntKind.u64).bits = n := by
    show min ((n : Int)).toNat 64 = n
    omega
  rw [e]
  have e2 : (a : Int) * 2 ^ n = ((a * 2 ^ n : Nat) : Int) := by simp
  rw [e2, IntKind.wrap_u64]
  have e3 : ((a * 2 ^ n : Nat) : Int) % 18446744073709551616 = ((a * 2 ^ n : Nat) : Int) := Int.emod_eq_of_lt (by omega) (by omega)
  rw [e3]
  rfl
theorem OV_andU (hx : ev g x = some (.int .u64 (a : Int))) (hy : ev g y = some (.int .u64 (b : Int))) (ha : a < 18446744073709551616) (hb : b < 18446744073709551616) : OpV C g (.binOp .and t x y t') (.int .u64 ((a &&& b : Nat) : Int)) := by
  refine OV_binr hx hy fun w => ?_
  rw [← bits_and_u64_nat a b ha hb]
  simp [binOp, Op.intBits, Pure.pure, Sem.run, bits]
theorem OV_orU (hx : ev g x = some (.int .u64 (a : Int))) (hy : ev g y = some (.int .u64 (b : Int))) (ha : a < 18446744073709551616) (hb : b < 18446744073709551616) : OpV C g (.binOp .or t x y t') (.int .u64 ((a ||| b : Nat) : Int)) := by
  refine OV_binr hx hy fun w => ?_
  rw [← bits_or_u64_nat a b ha hb]
  simp [binOp, Op.intBits, Pure.pure, Sem.run, bits]
end ops
end Go.Sep
/-
  Our own: marks: New, Has, Set.
-/
set_option linter.unusedVariables false
set_option linter.unusedSimpArgs false
namespace Go.Proofs.Ytahfnbpbdnmggaa
open Go.Sep
abbrev wordsU (ms : List Nat) : List Value := ms.map fun a : Nat => Value.int .u64 (a : Int)
abbrev marksL (pm bm n : Nat) (ms : List Nat) : List HP := [blk pm [sl bm ms.length, .int .i64 n] 89, blk bm (wordsU ms) 92]
def bitB (ms : List Nat) (i : Nat) : Bool := (ms.getD (i / 64) 0).testBit (i % 64)
structure MI (n : Nat) (ms : List Nat) : Prop where
  ml : ms.length = (n + 63) / 64
  nb : n ≤ 65536
  wb : ∀ a ∈ ms, a < 18446744073709551616
theorem pow64 {n : Nat} (h : n < 64) : 2 ^ n < 18446744073709551616 := Nat.lt_of_lt_of_eq (Nat.pow_lt_pow_right (by decide) h) (by decide)
theorem marksNew (n : Nat) (h1 : 1 ≤ n) (h2 : n ≤ 65536) : Does Try.prog 10 [.int .i64 n] [] (fun v l => ∃ pm bm, v = .tuple #[ptr pm 0, .int .i64 0] ∧ l = marksL pm bm n (List.replicate ((n + 63) / 64) 0)) := by
  refine Does.of tiok Try.func10 (by kernel_rfl) rfl Try.ntmps10 rfl ?_
  intro W fr
  repeat' (first | (refine IsO ?_; first | refine JO_nil ?_ | (refine IsMove ?_; refine M2 rfl rfl rfl ?_) | (refine IsBin ?_; first | refine B1 rfl rfl rfl rfl ?_ | refine B2 rfl rfl rfl rfl ?_ | refine B4 rfl rfl rfl rfl ?_) | (refine IsBox ?_; refine N1 rfl rfl rfl rfl (fun _ => ?_)) | (refine IsBuild ?_; refine U1 rfl rfl rfl rfl rfl rfl ?_) | refine V1 rfl rfl rfl ?_) | (refine IsAt ?_; (with_reducible refine T1 ?_)) | (refine IsJ ?_; first | refine J_seq ?_ | refine J_region ?_ | refine J_skip ?_ | refine J_ret ?_ | (refine IsCond ?_; refine K2 rfl ?_)))
  rw [show ((n : Int) + 64 - 1) / 64 = (((n + 63) / 64 : Nat) : Int) by omega]
  refine JO_l (OL_makeN rfl rfl rfl rfl (by omega) (by omega)) rfl rfl ?_
  rintro _ _ ⟨bm, rfl, rfl⟩
  repeat' (first | (refine IsO ?_; first | refine JO_nil ?_ | (refine IsMove ?_; refine M2 rfl rfl rfl ?_) | (refine IsBin ?_; first | refine B1 rfl rfl rfl rfl ?_ | refine B2 rfl rfl rfl rfl ?_ | refine B4 rfl rfl rfl rfl ?_) | (refine IsBox ?_; refine N1 rfl rfl rfl rfl (fun _ => ?_)) | (refine IsBuild ?_; refine U1 rfl rfl rfl rfl rfl rfl ?_) | refine V1 rfl rfl rfl ?_) | (refine IsAt ?_; (with_reducible refine T1 ?_)) | (refine IsJ ?_; first | refine J_seq ?_ | refine J_region ?_ | refine J_skip ?_ | refine J_ret ?_ | (refine IsCond ?_; refine K2 rfl ?_)))
  rename_i pm
  refine At_ret rfl rfl (.tmp rfl (.tmp rfl .nil)) rfl (is := [0, 0]) rfl ⟨pm, bm, rfl, ?_⟩
  simp [wordsU]
section ops
variable {pm bm n : Nat} {ms : List Nat}
theorem Has_in (i : Nat) (h : MI n ms) (hi : i < n) : Does Try.prog 36 [ptr pm 0, .int .i64 i] (marksL pm bm n ms) (fun v l => v = .bool (bitB ms i) ∧ l = marksL pm bm n ms) := by
  have hml := h.ml
  have hnb := h.nb
  obtain ⟨a, ha⟩ : ∃ a, ms[i / 64]? = some a := ⟨ms[i / 64]'(by omega), List.getElem?_eq_getElem _⟩
  have hab := h.wb a (List.mem_of_getElem? ha)
  have hdiv : (i : Int) / 64 = ((i / 64 : Nat) : Int) := by omega
  have hmod : (i : Int) % 64 = ((i % 64 : Nat) : Int) := by omega
  refine Does.of tiok Try.func36 (by kernel_rfl) rfl Try.ntmps36 rfl ?_
  intro W fr
  repeat' (first | (refine IsO ?_; first | refine JO_nil ?_ | (refine IsMove ?_; refine M1 rfl rfl rfl ?_) | (refine IsBin ?_; first | refine B4 rfl rfl rfl rfl ?_ | refine B5 rfl rfl rfl rfl ?_) | (refine IsLoad ?_; refine L1 rfl rfl rfl rfl ?_) | refine V1 rfl rfl rfl ?_) | (refine IsAt ?_; (with_reducible refine T1 ?_)) | (refine IsJ ?_; first | refine J_seq ?_ | refine J_region ?_ | refine J_ret ?_))
  rw [hdiv]
  refine JO_val (OV_idx (off := i / 64) rfl rfl rfl rfl (by omega) (by omega) (by omega)) rfl rfl ?_
  refine JO_q (OQ_load (v := .int .u64 (a : Int)) rfl rfl (by repeat (first | exact .head _ | refine .tail _ ?_)) (by rw [List.getElem?_map, ha]; rfl)) rfl rfl ?_
  repeat' (first | (refine IsO ?_; first | refine JO_nil ?_ | (refine IsMove ?_; refine M1 rfl rfl rfl ?_) | (refine IsBin ?_; first | refine B4 rfl rfl rfl rfl ?_ | refine B5 rfl rfl rfl rfl ?_) | (refine IsLoad ?_; refine L1 rfl rfl rfl rfl ?_) | refine V1 rfl rfl rfl ?_) | (refine IsAt ?_; (with_reducible refine T1 ?_)) | (refine IsJ ?_; first | refine J_seq ?_ | refine J_region ?_ | refine J_ret ?_))
  rw [hmod]
  refine JO_val (OV_shrU (a := a) (n := i % 64) rfl rfl (by omega)) rfl rfl ?_
  refine JO_val (OV_andU (a := a / 2 ^ (i % 64)) (b := 1) rfl rfl (Nat.lt_of_le_of_lt (Nat.div_le_self _ _) hab) (by decide)) rfl rfl ?_
  repeat' (first | (refine IsO ?_; first | refine JO_nil ?_ | (refine IsMove ?_; refine M1 rfl rfl rfl ?_) | (refine IsBin ?_; first | refine B4 rfl rfl rfl rfl ?_ | refine B5 rfl rfl rfl rfl ?_) | (refine IsLoad ?_; refine L1 rfl rfl rfl rfl ?_) | refine V1 rfl rfl rfl ?_) | (refine IsAt ?_; (with_reducible refine T1 ?_)) | (refine IsJ ?_; first | refine J_seq ?_ | refine J_region ?_ | refine J_ret ?_))
  refine At_ret rfl rfl (.tmp rfl .nil) rfl (is := [0, 0]) rfl ⟨congrArg Value.bool ?_, rfl⟩
  unfold bitB
  rw [List.getD_eq_getElem?_getD, ha, Option.getD_some, Nat.testBit_eq_decide_div_mod_eq, Nat.and_one_is_mod]
  exact decide_eq_decide.2 (by omega)
/-- The words with a place's bit set. -/
def setM (ms : List Nat) (i : Nat) : List Nat := ms.set (i / 64) (ms.getD (i / 64) 0 ||| 1 * 2 ^ (i % 64))
theorem putL_wordsU {ms : List Nat} {i : Nat} (v : Nat) (h : i < ms.length) : putL (wordsU ms) i [.int .u64 (v : Int)] = some (wordsU (ms.set i v)) := by
  rw [putL_split (by simp; omega)]
  congr 1
  simp only [wordsU]
  rw [List.map_set, List.set_eq_take_append_cons_drop, if_pos (by simpa using h)]
  simp
theorem MI.set {i : Nat} (h : MI n ms) (hi : i < n) : MI n (setM ms i) := by
  have hml := h.ml
  refine ⟨by unfold setM; simp [hml], h.nb, fun a ha => ?_⟩
  rcases List.mem_or_eq_of_mem_set ha with ha | rfl
  · exact h.wb a ha
  · have h1 : ms.getD (i / 64) 0 < 18446744073709551616 := by
      have hlt : i / 64 < ms.length := by omega
      rw [List.getD_eq_getElem?_getD, List.getElem?_eq_getElem hlt]
      exact h.wb _ (List.getElem_mem hlt)
    have h2 : 1 * 2 ^ (i % 64) < 18446744073709551616 := by rw [Nat.one_mul]; exact pow64 (Nat.mod_lt _ (by decide))
    exact Nat.or_lt_two_pow (n := 64) h1 h2
theorem bitB_set {i j : Nat} (h : MI n ms) (hi : i < n) : bitB (setM ms i) j = (bitB ms j || decide (j = i)) := by
  have hml := h.ml
  have hlt : i / 64 < ms.length := by omega
  unfold bitB setM
  rw [Nat.one_mul, List.getD_eq_getElem?_getD, List.getElem?_set]
  by_cases e : i / 64 = j / 64
  · rw [if_pos e, if_pos hlt, Option.getD_some, Nat.testBit_or, Nat.testBit_two_pow, e]
    congr 1
    exact decide_eq_decide.2 (by omega)
  · rw [if_neg e, ← List.getD_eq_getElem?_getD, decide_eq_false (by intro e2; subst e2; exact e rfl), Bool.or_false]
set_option maxHeartbeats 4000000 in
theorem Set_in (i : Nat) (h : MI n ms) (hi : i < n) : Does Try.prog 12 [ptr pm 0, .int .i64 i] (marksL pm bm n ms) (fun v l => v = .tuple #[.bool (!bitB ms i), .int .i64 0] ∧ l = marksL pm bm n (setM ms i)) := by
  have hml := h.ml
  have hnb := h.nb
  obtain ⟨a, ha⟩ : ∃ a, ms[i / 64]? = some a := ⟨ms[i / 64]'(by omega), List.getElem?_eq_getElem _⟩
  have hab := h.wb a (List.mem_of_getElem? ha)
  have haD : ms.getD (i / 64) 0 = a := by rw [List.getD_eq_getElem?_getD, ha]; rfl
  have hdiv : (i : Int) / 64 = ((i / 64 : Nat) : Int) := by omega
  have hmod : (i : Int) % 64 = ((i % 64 : Nat) : Int) := by omega
  have hp := pow64 (n := i % 64) (Nat.mod_lt _ (by decide))
  refine Does.of tiok Try.func12 (by kernel_rfl) rfl Try.ntmps12 rfl ?_
  intro W fr
  repeat' (first | (refine IsO ?_; first | refine JO_nil ?_ | (refine IsMove ?_; refine M2 rfl rfl rfl ?_) | (refine IsLoad ?_; refine L1 rfl rfl rfl rfl ?_) | refine V1 rfl rfl rfl ?_) | (refine IsAt ?_; (with_reducible refine T1 ?_)) | (refine IsJ ?_; first | refine J_seq ?_ | refine J_region ?_ | refine J_skip ?_ | refine J_ret ?_ | (refine IsCond ?_; refine K2 rfl ?_)))
  refine JO_l (OL_call [0, 0] rfl rfl rfl (Has_in i h hi) rfl) rfl rfl ?_; rintro _ _ ⟨_, ⟨rfl, rfl⟩, rfl⟩
  generalize bitB ms i = bv
  repeat' (first | (refine IsO ?_; first | refine JO_nil ?_ | (refine IsMove ?_; refine M2 rfl rfl rfl ?_) | (refine IsLoad ?_; refine L1 rfl rfl rfl rfl ?_) | refine V1 rfl rfl rfl ?_) | (refine IsAt ?_; (with_reducible refine T1 ?_)) | (refine IsJ ?_; first | refine J_seq ?_ | refine J_region ?_ | refine J_skip ?_ | refine J_ret ?_ | (refine IsCond ?_; refine K2 rfl ?_)))
  refine J_draw [0, 0, 0, 1, 0, 0, 0, 1, 0, 0, 0, 0, 0, 2] (List.range 14) (by kernel_rfl) (by kernel_rfl) ?_
  repeat' (refine IsX ?_; first | (refine JX_nil ?_; refine At_np ?_) | (refine JX_op rfl ?_; refine XsO ?_; first | (refine XsBin ?_; first | refine XB4 rfl rfl rfl rfl rfl ?_ | refine XB5 rfl rfl rfl rfl rfl ?_) | (refine XsLoad ?_; refine XL1 rfl rfl rfl rfl rfl ?_) | refine XV1 rfl rfl rfl rfl ?_))
  rw [hdiv]
  refine JX_val rfl rfl (OV_idx (off := i / 64) rfl rfl rfl rfl (by omega) (by omega) (by omega)) rfl rfl ?_
  refine JX_q rfl rfl (OQ_load (v := .int .u64 (a : Int)) rfl rfl (by repeat (first | exact .head _ | refine .tail _ ?_)) (by rw [List.getElem?_map, ha]; rfl)) rfl rfl ?_
  repeat' (refine IsX ?_; first | (refine JX_nil ?_; refine At_np ?_) | (refine JX_op rfl ?_; refine XsO ?_; first | (refine XsBin ?_; first | refine XB4 rfl rfl rfl rfl rfl ?_ | refine XB5 rfl rfl rfl rfl rfl ?_) | (refine XsLoad ?_; refine XL1 rfl rfl rfl rfl rfl ?_) | refine XV1 rfl rfl rfl rfl ?_))
  rw [hmod]
  refine JX_val rfl rfl (OV_shlU (a := 1) (n := i % 64) rfl rfl (by omega) (by omega)) rfl rfl ?_
  refine JX_val rfl rfl (OV_orU (a := a) (b := 1 * 2 ^ (i % 64)) rfl rfl hab (by omega)) rfl rfl ?_
  refine JX_val rfl rfl (OV_idx (off := i / 64) rfl rfl rfl rfl (by omega) (by omega) (by omega)) rfl rfl ?_
  refine JX_l0 rfl rfl (OL_store rfl rfl rfl rfl rfl rfl (by first | exact P0 | exact P1 | exact P2 | exact P3 | exact P4 | exact P5 | exact P6 | exact P7) (putL_wordsU (a ||| 1 * 2 ^ (i % 64)) (by omega))) rfl ?_
  rintro _ _ rfl
  repeat' (refine IsX ?_; first | (refine JX_nil ?_; refine At_np ?_) | (refine JX_op rfl ?_; refine XsO ?_; first | (refine XsBin ?_; first | refine XB4 rfl rfl rfl rfl rfl ?_ | refine XB5 rfl rfl rfl rfl rfl ?_) | (refine XsLoad ?_; refine XL1 rfl rfl rfl rfl rfl ?_) | refine XV1 rfl rfl rfl rfl ?_))
  repeat' (first | (refine IsO ?_; first | refine JO_nil ?_ | (refine IsMove ?_; refine M2 rfl rfl rfl ?_) | (refine IsLoad ?_; refine L1 rfl rfl rfl rfl ?_) | refine V1 rfl rfl rfl ?_) | (refine IsAt ?_; (with_reducible refine T1 ?_)) | (refine IsJ ?_; first | refine J_seq ?_ | refine J_region ?_ | refine J_skip ?_ | refine J_ret ?_ | (refine IsCond ?_; refine K2 rfl ?_)))
  refine At_ret rfl rfl (.tmp rfl (.tmp rfl .nil)) rfl (is := [1, 0]) rfl ⟨rfl, ?_⟩
  unfold setM
  rw [haD]
  simp
end ops
end Go.Proofs.Ytahfnbpbdnmggaa
/-
  Our own: besomlaw12.Marked: a graph's heap, some of whose objects are marked.
-/
set_option linter.unusedVariables false
set_option linter.unusedSimpArgs false
namespace Go.Proofs.Ytahfnbpbdnmggaa
open Go.Sep
theorem bitB_zero {k i : Nat} : bitB (List.replicate k 0) i = false := by
  unfold bitB
  rw [List.getD_eq_getElem?_getD, List.getElem?_replicate]
  split <;> simp
theorem MI.new {n : Nat} (h : n ≤ 65536) : MI n (List.replicate ((n + 63) / 64) 0) := ⟨by simp, h, fun a ha => by rw [(List.mem_replicate.1 ha).2]; decide⟩
theorem Ch.o_lt {ws : List Int} {os : List RO} {T j : Nat} {o : RO} (h : Ch ws 0 os T) (hj : os[j]? = some o) : o.i + 1 + o.ws.length ≤ T := (h.at hj).2.2.2.2.2.le
end Go.Proofs.Ytahfnbpbdnmggaa
/-
  Our own: regions: rows of numbers that a slice holds; what stays in each region, in plain lists.
-/
set_option linter.unusedVariables false
set_option linter.unusedSimpArgs false
namespace Go.Proofs.Ytahfnbpbdnmggaa
open Go.Sep
/-- A row of numbers that a slice holds: the numbers, where they lie. -/
structure RG where
  c : List Int
  a : Option Addr
  k : Nat
abbrev cellG (r : RG) : Value := .slice r.a r.c.length r.k
abbrev rowG (r : RG) : HP := rowz 3 1 r.a r.c.length r.k (intsV r.c)
def GW (rs : List RG) : HP := big (rs.map rowG)
def okG (rs : List RG) : Prop := ∀ r ∈ rs, r.a = none → r.c.length = 0 ∧ r.k = 0
theorem GW_ok {W w : World} {l : List HP} {rs : List RG} (hs : Sat W l w) (hm : GW rs ∈ l) : okG rs := by
  intro r hr hn
  obtain ⟨h1, s1, k1⟩ := hs.stars.mem hm
  obtain ⟨h2, s2, k2⟩ := Stars.mem (l := rs.map rowG) k1 (List.mem_map_of_mem (f := rowG) hr)
  have k3 : rowz 3 1 r.a r.c.length r.k (intsV r.c) h2 := k2
  rw [hn] at k3
  exact rowz_none k3
theorem GW.reads {rs : List RG} {r : RG} (hr : r ∈ rs) (ok : okG rs) : Reads (GW rs) 1 r.c.length r.a r.k (intsV r.c) := by
  have h : Reads (rowG r) 1 r.c.length r.a r.k (intsV r.c) := Reads.rowz (by simp) (ok r hr)
  refine ⟨by simp, ok r hr, fun W l w hs hm i hi => ?_⟩
  obtain ⟨h1, s1, k1⟩ := hs.stars.mem hm
  obtain ⟨h2, s2, k2⟩ := Stars.mem (l := rs.map rowG) k1 (List.mem_map_of_mem (f := rowG) hr)
  exact h.cell W [rowG r] w ⟨hs.os, hs.tape, hs.output, one_star (s2.trans s1) k2⟩ (.head _) i hi
theorem perm_at {α : Type} : ∀ {rs : List α} {k : Nat} {r : α}, rs[k]? = some r → rs.Perm (r :: rs.eraseIdx k)
  | [], k, r, h => by simp at h
  | x :: rs, 0, r, h => by simp at h; subst h; exact List.Perm.refl _
  | x :: rs, k + 1, r, h => ((perm_at (rs := rs) (k := k) (by simpa using h)).cons x).trans (List.Perm.swap _ _ _)
theorem perm_put {α : Type} : ∀ {rs : List α} {k : Nat} {r' : α}, k < rs.length → (r' :: rs.eraseIdx k).Perm (rs.set k r')
  | [], k, r, h => by simp at h
  | x :: rs, 0, r, h => List.Perm.refl _
  | x :: rs, k + 1, r, h => (List.Perm.swap _ _ _).trans ((perm_put (rs := rs) (k := k) (by simpa using h)).cons x)
theorem GW_new (n : Nat) {l : List HP} {H : PH} (h : Stars l H) : Stars (GW (List.replicate n ⟨[], none, 0⟩) :: l) H := by
  refine Stars.shut ?_
  rw [List.map_replicate]
  induction n with
  | zero => exact h
  | succ n ih => exact rowz_nil ih
/-- One row out .. -/
theorem GW.out {rs : List RG} {k : Nat} {r : RG} {l : List HP} {H : PH} (hk : rs[k]? = some r) (h : Stars (GW rs :: l) H) : Stars (rowG r :: GW (rs.eraseIdx k) :: l) H := by
  have h1 : Stars (rs.map rowG ++ l) H := h.open
  have h2 : Stars ((rowG r :: (rs.eraseIdx k).map rowG) ++ l) H := h1.perm (((perm_at hk).map rowG).append_right _)
  have h3 : Stars ((rs.eraseIdx k).map rowG ++ (rowG r :: l)) H := h2.perm (List.perm_middle.symm)
  exact Stars.swap (Stars.shut h3)
/-- .. and another one in. -/
theorem GW.back {rs : List RG} {k : Nat} {r' : RG} {l : List HP} {H : PH} (hk : k < rs.length) (h : Stars (rowG r' :: GW (rs.eraseIdx k) :: l) H) : Stars (GW (rs.set k r') :: l) H := by
  have h1 := (Stars.swap h).open
  have h2 : Stars ((rowG r' :: (rs.eraseIdx k).map rowG) ++ l) H := h1.perm List.perm_middle
  exact Stars.shut (h2.perm (((perm_put (r' := r') hk).map rowG).append_right _))
/-- Does an object stay? -/
def lvB (ms : List Nat) (o : RO) : Bool := decide (o.k ≠ 15) && bitB ms o.i
def lvs (ms : List Nat) (os : List RO) : List RO := os.filter (lvB ms)
def inR (w k : Nat) (L : List RO) : List RO := L.filter fun o => decide (o.i / w = k)
def befR (w k : Nat) (L : List RO) : List RO := L.filter fun o => decide (o.i / w < k)
def szL (L : List RO) : Nat := (L.map fun o => 1 + o.ws.length).sum
def stI (w k : Nat) (L : List RO) : List Int := (inR w k L).map fun o => (o.i : Int)
theorem szL_app {A B : List RO} : szL (A ++ B) = szL A + szL B := by unfold szL; rw [List.map_append, List.sum_append]
theorem szL_filter {p : RO → Bool} : ∀ {L : List RO}, szL (L.filter p) ≤ szL L
  | [] => Nat.le_refl _
  | o :: L => by
    have ih := szL_filter (p := p) (L := L)
    unfold szL at ih ⊢
    rw [List.filter_cons]
    split <;> simp only [List.map_cons, List.sum_cons] <;> omega
theorem Ch.sz {ws : List Int} : ∀ {os : List RO} {i T : Nat}, Ch ws i os T → i + szL os = T
  | [], i, T, h => h
  | o :: r, i, T, ⟨h1, h2, h3, h4, h5⟩ => by
    have := Ch.sz h5
    unfold szL at this ⊢
    simp only [List.map_cons, List.sum_cons]
    omega
theorem lvs_next {ms : List Nat} {os : List RO} {j : Nat} {o : RO} (h : os[j]? = some o) : lvs ms (os.take (j + 1)) = lvs ms (os.take j) ++ (if lvB ms o then [o] else []) := by
  unfold lvs
  rw [take_next h, List.filter_append]
  congr 1
  rw [List.filter_cons]
  rfl
theorem lvs_le {ms : List Nat} {os : List RO} {j : Nat} : szL (lvs ms (os.take j)) ≤ szL os := by
  refine Nat.le_trans szL_filter ?_
  conv => rhs; rw [← List.take_append_drop j os]
  rw [szL_app]
  exact Nat.le_add_right _ _
theorem stI_len {w k : Nat} {L : List RO} : (stI w k L).length ≤ L.length := by
  unfold stI inR
  rw [List.length_map]
  exact List.length_filter_le _ _
theorem lvs_len {ms : List Nat} {os : List RO} {j : Nat} : (lvs ms (os.take j)).length ≤ os.length := by
  refine Nat.le_trans (List.length_filter_le _ _) ?_
  rw [List.length_take]
  exact Nat.min_le_right _ _
/-- Rows and sums while the objects are gone through. -/
structure RI (w nR : Nat) (L : List RO) (rs : List RG) (fs : List Int) : Prop where
  rl : rs.length = nR
  fl : fs.length = nR + 1
  rc : ∀ k r, rs[k]? = some r → r.c = stI w k L
  f0 : fs[0]? = some 0
  fc : ∀ k, k < nR → fs[k + 1]? = some (szL (inR w k L) : Int)
theorem RI.new (w nR : Nat) : RI w nR [] (List.replicate nR ⟨[], none, 0⟩) (List.replicate (nR + 1) 0) := by
  refine ⟨by simp, by simp, fun k r h => ?_, by simp, fun k h => ?_⟩
  · rw [List.getElem?_replicate] at h
    split at h
    · injection h with h; subst h; rfl
    · cases h
  · rw [List.getElem?_replicate, if_pos (by omega)]; rfl
theorem inR_app {w k : Nat} {L : List RO} {o : RO} : inR w k (L ++ [o]) = inR w k L ++ (if o.i / w = k then [o] else []) := by
  unfold inR
  rw [List.filter_append]
  congr 1
  by_cases h : o.i / w = k <;> simp [List.filter_cons, h]
theorem RI.step {w nR : Nat} {L : List RO} {rs : List RG} {fs : List Int} (h : RI w nR L rs fs) {o : RO} (hk : o.i / w < nR) {r r' : RG} (hr : rs[o.i / w]? = some r) (hc : r'.c = r.c ++ [(o.i : Int)]) :
    RI w nR (L ++ [o]) (rs.set (o.i / w) r') (fs.set (o.i / w + 1) ((szL (inR w (o.i / w) L) : Int) + (1 + o.ws.length))) := by
  have hrl := h.rl
  have hfl := h.fl
  refine ⟨by simp [h.rl], by simp [h.fl], fun k x hx => ?_, ?_, fun k hkn => ?_⟩
  · rw [List.getElem?_set] at hx
    unfold stI
    rw [inR_app]
    by_cases e : o.i / w = k
    · subst e
      rw [if_pos rfl, if_pos (by omega)] at hx
      injection hx with hx; subst hx
      rw [if_pos rfl, List.map_append, hc, h.rc _ _ hr]
      rfl
    · rw [if_neg e] at hx
      rw [if_neg e, List.append_nil]
      exact h.rc k x hx
  · rw [List.getElem?_set_ne (Nat.succ_ne_zero _)]; exact h.f0
  · rw [List.getElem?_set, inR_app]
    by_cases e : o.i / w = k
    · subst e
      rw [if_pos rfl, if_pos (by omega), if_pos rfl, szL_app]
      congr 1
    · rw [if_neg (by omega), if_neg e, List.append_nil]
      exact h.fc k hkn
/-- The sums while they are added up. -/
structure PI (w nR : Nat) (L : List RO) (q : Nat) (fs : List Int) : Prop where
  fl : fs.length = nR + 1
  fb : ∀ k, k ≤ q → fs[k]? = some (szL (befR w k L) : Int)
  fc : ∀ k, q ≤ k → k < nR → fs[k + 1]? = some (szL (inR w k L) : Int)
theorem befR_next {w k : Nat} : ∀ {L : List RO}, szL (befR w (k + 1) L) = szL (inR w k L) + szL (befR w k L)
  | [] => rfl
  | o :: L => by
    have ih := befR_next (w := w) (k := k) (L := L)
    unfold befR inR szL at ih ⊢
    simp only [List.filter_cons]
    by_cases e : o.i / w = k
    · simp only [e, decide_true, if_true, show k < k + 1 by omega, show ¬ k < k by omega, decide_false, Bool.false_eq_true, if_false, List.map_cons, List.sum_cons]
      omega
    · by_cases e2 : o.i / w < k
      · simp only [e, e2, decide_true, if_true, show o.i / w < k + 1 by omega, decide_false, Bool.false_eq_true, if_false, List.map_cons, List.sum_cons]
        omega
      · simp only [e, e2, show ¬ o.i / w < k + 1 by omega, decide_false, Bool.false_eq_true, if_false]
        omega
theorem befR_zero {w : Nat} {L : List RO} : befR w 0 L = [] := by
  unfold befR
  rw [List.filter_eq_nil_iff]
  intro o _
  simp
theorem RI.sums {w nR : Nat} {L : List RO} {rs : List RG} {fs : List Int} (h : RI w nR L rs fs) : PI w nR L 0 fs := by
  refine ⟨h.fl, fun k hk => ?_, fun k _ hk => h.fc k hk⟩
  obtain rfl : k = 0 := by omega
  rw [befR_zero, h.f0]; rfl
theorem PI.step {w nR q : Nat} {L : List RO} {fs : List Int} (h : PI w nR L q fs) (hq : q < nR) : PI w nR L (q + 1) (fs.set (q + 1) ((szL (inR w q L) : Int) + szL (befR w q L))) := by
  have hfl := h.fl
  refine ⟨by simp [h.fl], fun k hk => ?_, fun k h1 h2 => ?_⟩
  · rw [List.getElem?_set]
    by_cases e : q + 1 = k
    · subst e
      rw [if_pos rfl, if_pos (by omega), befR_next]
      congr 1
    · rw [if_neg e]
      exact h.fb k (by omega)
  · rw [List.getElem?_set_ne (by omega)]
    exact h.fc k (by omega) h2
/-- Where each region goes. -/
def firstI (w nR : Nat) (L : List RO) : List Int := (List.range (nR + 1)).map fun k => (szL (befR w k L) : Int)
theorem firstI_at {w nR k : Nat} {L : List RO} (h : k ≤ nR) : (firstI w nR L)[k]? = some (szL (befR w k L) : Int) := by
  unfold firstI
  rw [List.getElem?_map, List.getElem?_range (by omega)]
  rfl
theorem PI.end_ {w nR : Nat} {L : List RO} {fs : List Int} (h : PI w nR L nR fs) : fs = firstI w nR L := by
  refine List.ext_getElem? fun k => ?_
  by_cases hk : k ≤ nR
  · rw [h.fb k hk, firstI_at hk]
  · rw [List.getElem?_eq_none (by rw [h.fl]; omega), List.getElem?_eq_none (by unfold firstI; simp; omega)]
/-- How many regions. -/
def numR (w T : Nat) : Nat := (T + w - 1) / w
theorem numR_lt {w T i : Nat} (hw : 1 ≤ w) (h : i < T) : i / w < numR w T := by
  unfold numR
  rw [Nat.div_lt_iff_lt_mul hw]
  have h1 := Nat.div_add_mod (T + w - 1) w
  have h2 := Nat.mod_lt (T + w - 1) hw
  rw [Nat.mul_comm] at h1
  omega
theorem befR_all {w T : Nat} {ws : List Int} {os : List RO} (ms : List Nat) (hw : 1 ≤ w) (h : Ch ws 0 os T) : befR w (numR w T) (lvs ms os) = lvs ms os := by
  unfold befR
  rw [List.filter_eq_self]
  intro o ho
  obtain ⟨j, hj⟩ := List.getElem?_of_mem (List.mem_filter.1 ho).1
  have := h.o_lt hj
  exact decide_eq_true (numR_lt hw (by omega))
theorem firstI_len {w nR : Nat} {L : List RO} : (firstI w nR L).length = nR + 1 := by unfold firstI; simp
theorem numR_le {w T : Nat} (h : 1 ≤ w) : numR w T ≤ T := by
  unfold numR
  have : (T + w - 1) / w < T + 1 := by
    rw [Nat.div_lt_iff_lt_mul h]
    have h3 : T + w ≤ (T + 1) * w := by
      have : T * 1 ≤ T * w := Nat.mul_le_mul_left _ h
      rw [Nat.add_mul]
      omega
    omega
  omega
theorem total_of {w T : Nat} {ws : List Int} {os : List RO} (ms : List Nat) (hw : 1 ≤ w) (h : Ch ws 0 os T) : (firstI w (numR w T) (lvs ms os))[numR w T]? = some (szL (lvs ms os) : Int) := by
  rw [firstI_at (Nat.le_refl _), befR_all ms hw h]
end Go.Proofs.Ytahfnbpbdnmggaa
/-
  Our own: region.Of.
-/
set_option linter.unusedVariables false
set_option linter.unusedSimpArgs false
namespace Go.Proofs.Ytahfnbpbdnmggaa
open Go.Sep
def widthR (words : Int) : Nat := (min (max words 1) 65536).toNat
theorem widthR_in {x : Int} : 1 ≤ widthR x ∧ widthR x ≤ 65536 := by unfold widthR; omega
abbrev regL (bst bf : Nat) (rs : List RG) (fs : List Int) : List HP := [blk bst (rs.map cellG) 30, GW rs, blk bf (intsV fs) 3]
abbrev regV (w bst bf nR : Nat) : Value := .agg #[.int .i64 w, sl bst nR, sl bf (nR + 1)]
/-- Of a heap's objects and marks. -/
structure RegOk (w T : Nat) (ms : List Nat) (os : List RO) (rs : List RG) : Prop where
  rl : rs.length = numR w T
  rc : ∀ k r, rs[k]? = some r → r.c = stI w k (lvs ms os)
theorem putL_cellG {rs : List RG} {k n : Nat} (r : RG) (h : k < rs.length) (hn : r.c.length = n) : putL (rs.map cellG) k [.slice r.a n r.k] = some ((rs.set k r).map cellG) := by
  subst hn
  rw [putL_split (by simp; omega)]
  congr 1
  rw [List.map_set, List.set_eq_take_append_cons_drop, if_pos (by simpa using h)]
  simp
set_option maxHeartbeats 32000000 in
theorem RegOf_spec {p bw bs n T pm bm : Nat} {ws : List Int} {st : List Bool} {os : List RO} {ms : List Nat} (words : Int) (h64 : In64 words) (h : HT n T ws st) (hc : Ch ws 0 os T) (hM : MI n ms) :
    Does Try.prog 62 [ptr p 0, ptr pm 0, .int .i64 words] (heapL p bw bs n ws T st ++ marksL pm bm n ms)
    (fun v l => ∃ w bst bf rs, w = widthR words ∧ RegOk w T ms os rs ∧ v = regV w bst bf (numR w T) ∧ l = heapL p bw bs n ws T st ++ marksL pm bm n ms ++ regL bst bf rs (firstI w (numR w T) (lvs ms os))) := by
  obtain ⟨h641, h642⟩ := h64
  have hwl := h.wl
  have htn := h.tn
  have hnb := h.nb
  have hsz := hc.sz
  refine Does.ofM tiok Try.func62 (by kernel_rfl) rfl Try.ntmps62 rfl ?_
  intro W fr
  repeat' (first | (refine IsO ?_; first | refine JO_nil ?_ | (refine IsG ?_; refine G1 rfl rfl ?_) | (refine IsMove ?_; refine M5 rfl rfl rfl (fun _ => ?_) (fun _ => ?_)) | (refine IsBin ?_; first | refine B1 rfl rfl rfl rfl ?_ | refine B4 rfl rfl rfl rfl ?_) | (refine IsLoad ?_; first | refine L1 rfl rfl rfl rfl ?_ | refine L2 rfl rfl rfl rfl rfl ?_) | (refine IsStore ?_; refine S1 rfl rfl rfl rfl rfl rfl rfl (fun _ => ?_)) | (refine IsBox ?_; refine N1 rfl rfl rfl rfl (fun _ => ?_)) | (refine IsAlloc ?_; refine N2 rfl rfl rfl rfl (fun _ => ?_)) | (refine IsBuild ?_; refine U1 rfl rfl rfl rfl rfl rfl ?_) | refine V1 rfl rfl rfl ?_) | (refine IsAt ?_; first | (with_reducible first | refine T1 ?_ | refine T3 ?_ | refine T5 ?_ | refine T6 ?_) | ((with_reducible show At _ (PBlock _ _ (Exit.exit _)) _ _); refine At_block_hit ?_)) | (refine IsJ ?_; first | refine J_seq ?_ | refine J_region ?_ | refine J_block ?_ | refine J_skip ?_ | refine J_ret ?_ | refine J_exit ?_ | (refine IsCond ?_; first | refine J_cond_t rfl ?_ | refine J_cond_f rfl ?_ | refine J_cb rfl (fun _ => ?_) (fun _ => ?_))))
  rename_i b4 b6 b7 _
  obtain ⟨w, hw, hw1, hw2, hww⟩ : ∃ w : Nat, (if 65536 < (if words < 1 then 1 else words) then 65536 else (if words < 1 then 1 else words)) = (w : Int) ∧ 1 ≤ w ∧ w ≤ 65536 ∧ w = widthR words := by
    unfold widthR
    refine ⟨_, ?_, ?_, ?_, rfl⟩
    · split <;> split <;> omega
    · omega
    · omega
  rw [hw]
  obtain ⟨nR, hnR⟩ : ∃ nR, nR = numR w T := ⟨_, rfl⟩
  have hnq : ((T : Int) + w - 1) / w = (nR : Int) := by
    rw [hnR]
    unfold numR
    rw [show (T : Int) + w - 1 = ((T + w - 1 : Nat) : Int) by omega]
    exact (Int.natCast_ediv _ _).symm
  have hnRb : nR ≤ 65536 := by
    rw [hnR]
    unfold numR
    have : (T + w - 1) / w < 65537 := by
      rw [Nat.div_lt_iff_lt_mul hw1]
      have : 65537 * 1 ≤ 65537 * w := Nat.mul_le_mul_left _ hw1
      have h2 : T + w - 1 ≤ 65535 + w := by omega
      have h3 : 65536 + w ≤ 65537 * w := by
        have : 65536 * 1 ≤ 65536 * w := Nat.mul_le_mul_left _ hw1
        omega
      omega
    omega
  have hM0 : Does Try.prog 24 [ptr p 0] (heapL p bw bs n ws T st) _ := heapTop
  refine J_drawk [blk b7 [.int .i64 w, .slice none 0 0, .slice none 0 0] 104] (fun H hl => hl.pick (is := [0]) rfl) [0, 2, 0, 5, 0, 0, 0, 5, 0, 0] [0, 2, 3, 6, 7, 1, 4, 5, 8, 9] (by kernel_rfl) (by kernel_rfl) ?_
  repeat' (refine IsX ?_; first | (refine JX_nil ?_; refine At_np ?_) | (refine JX_op rfl ?_; refine XsO ?_; first | (refine XsBin ?_; first | refine XB1 rfl rfl rfl rfl rfl ?_ | refine XB2 rfl rfl rfl rfl rfl ?_ | refine XB4 rfl rfl rfl rfl rfl ?_) | (refine XsLoad ?_; first | refine XL1k rfl rfl rfl rfl rfl ?_ | refine XL1 rfl rfl rfl rfl rfl ?_) | refine XV1 rfl rfl rfl rfl ?_))
  refine JX_lk rfl rfl (OL_call [3, 3, 3] rfl rfl rfl hM0 rfl) rfl rfl ?_ ?_
  · rintro _ _ ⟨_, ⟨rfl, rfl⟩, rfl⟩ H hl
    exact hl.pick (is := [3]) rfl
  rintro _ _ ⟨_, ⟨rfl, rfl⟩, rfl⟩ _
  repeat' (refine IsX ?_; first | (refine JX_nil ?_; refine At_np ?_) | (refine JX_op rfl ?_; refine XsO ?_; first | (refine XsBin ?_; first | refine XB1 rfl rfl rfl rfl rfl ?_ | refine XB2 rfl rfl rfl rfl rfl ?_ | refine XB4 rfl rfl rfl rfl rfl ?_) | (refine XsLoad ?_; first | refine XL1k rfl rfl rfl rfl rfl ?_ | refine XL1 rfl rfl rfl rfl rfl ?_) | refine XV1 rfl rfl rfl rfl ?_))
  rw [hnq]
  repeat' (first | (refine IsO ?_; first | refine JO_nil ?_ | (refine IsG ?_; refine G1 rfl rfl ?_) | (refine IsMove ?_; refine M5 rfl rfl rfl (fun _ => ?_) (fun _ => ?_)) | (refine IsBin ?_; first | refine B1 rfl rfl rfl rfl ?_ | refine B4 rfl rfl rfl rfl ?_) | (refine IsLoad ?_; first | refine L1 rfl rfl rfl rfl ?_ | refine L2 rfl rfl rfl rfl rfl ?_) | (refine IsStore ?_; refine S1 rfl rfl rfl rfl rfl rfl rfl (fun _ => ?_)) | (refine IsBox ?_; refine N1 rfl rfl rfl rfl (fun _ => ?_)) | (refine IsAlloc ?_; refine N2 rfl rfl rfl rfl (fun _ => ?_)) | (refine IsBuild ?_; refine U1 rfl rfl rfl rfl rfl rfl ?_) | refine V1 rfl rfl rfl ?_) | (refine IsAt ?_; first | (with_reducible first | refine T1 ?_ | refine T3 ?_ | refine T5 ?_ | refine T6 ?_) | ((with_reducible show At _ (PBlock _ _ (Exit.exit _)) _ _); refine At_block_hit ?_)) | (refine IsJ ?_; first | refine J_seq ?_ | refine J_region ?_ | refine J_block ?_ | refine J_skip ?_ | refine J_ret ?_ | refine J_exit ?_ | (refine IsCond ?_; first | refine J_cond_t rfl ?_ | refine J_cond_f rfl ?_ | refine J_cb rfl (fun _ => ?_) (fun _ => ?_))))
  refine JO_l (OL_makeN rfl rfl rfl rfl (by omega) (by omega)) rfl rfl ?_
  rintro _ _ ⟨bst, rfl, rfl⟩
  repeat' (first | (refine IsO ?_; first | refine JO_nil ?_ | (refine IsG ?_; refine G1 rfl rfl ?_) | (refine IsMove ?_; refine M5 rfl rfl rfl (fun _ => ?_) (fun _ => ?_)) | (refine IsBin ?_; first | refine B1 rfl rfl rfl rfl ?_ | refine B4 rfl rfl rfl rfl ?_) | (refine IsLoad ?_; first | refine L1 rfl rfl rfl rfl ?_ | refine L2 rfl rfl rfl rfl rfl ?_) | (refine IsStore ?_; refine S1 rfl rfl rfl rfl rfl rfl rfl (fun _ => ?_)) | (refine IsBox ?_; refine N1 rfl rfl rfl rfl (fun _ => ?_)) | (refine IsAlloc ?_; refine N2 rfl rfl rfl rfl (fun _ => ?_)) | (refine IsBuild ?_; refine U1 rfl rfl rfl rfl rfl rfl ?_) | refine V1 rfl rfl rfl ?_) | (refine IsAt ?_; first | (with_reducible first | refine T1 ?_ | refine T3 ?_ | refine T5 ?_ | refine T6 ?_) | ((with_reducible show At _ (PBlock _ _ (Exit.exit _)) _ _); refine At_block_hit ?_)) | (refine IsJ ?_; first | refine J_seq ?_ | refine J_region ?_ | refine J_block ?_ | refine J_skip ?_ | refine J_ret ?_ | refine J_exit ?_ | (refine IsCond ?_; first | refine J_cond_t rfl ?_ | refine J_cond_f rfl ?_ | refine J_cb rfl (fun _ => ?_) (fun _ => ?_))))
  rw [show (nR : Int) + 1 = ((nR + 1 : Nat) : Int) by omega]
  refine JO_l (OL_makeN rfl rfl rfl rfl (by omega) (by omega)) rfl rfl ?_
  rintro _ _ ⟨bf, rfl, rfl⟩
  repeat' (first | (refine IsO ?_; first | refine JO_nil ?_ | (refine IsG ?_; refine G1 rfl rfl ?_) | (refine IsMove ?_; refine M5 rfl rfl rfl (fun _ => ?_) (fun _ => ?_)) | (refine IsBin ?_; first | refine B1 rfl rfl rfl rfl ?_ | refine B4 rfl rfl rfl rfl ?_) | (refine IsLoad ?_; first | refine L1 rfl rfl rfl rfl ?_ | refine L2 rfl rfl rfl rfl rfl ?_) | (refine IsStore ?_; refine S1 rfl rfl rfl rfl rfl rfl rfl (fun _ => ?_)) | (refine IsBox ?_; refine N1 rfl rfl rfl rfl (fun _ => ?_)) | (refine IsAlloc ?_; refine N2 rfl rfl rfl rfl (fun _ => ?_)) | (refine IsBuild ?_; refine U1 rfl rfl rfl rfl rfl rfl ?_) | refine V1 rfl rfl rfl ?_) | (refine IsAt ?_; first | (with_reducible first | refine T1 ?_ | refine T3 ?_ | refine T5 ?_ | refine T6 ?_) | ((with_reducible show At _ (PBlock _ _ (Exit.exit _)) _ _); refine At_block_hit ?_)) | (refine IsJ ?_; first | refine J_seq ?_ | refine J_region ?_ | refine J_block ?_ | refine J_skip ?_ | refine J_ret ?_ | refine J_exit ?_ | (refine IsCond ?_; first | refine J_cond_t rfl ?_ | refine J_cond_f rfl ?_ | refine J_cb rfl (fun _ => ?_) (fun _ => ?_))))
  refine JO_l (OL_call [] rfl rfl rfl (Walk_spec) rfl) rfl rfl ?_; rintro _ _ ⟨_, ⟨bh, rfl, rfl⟩, rfl⟩
  repeat' (first | (refine IsO ?_; first | refine JO_nil ?_ | (refine IsG ?_; refine G1 rfl rfl ?_) | (refine IsMove ?_; refine M5 rfl rfl rfl (fun _ => ?_) (fun _ => ?_)) | (refine IsBin ?_; first | refine B1 rfl rfl rfl rfl ?_ | refine B4 rfl rfl rfl rfl ?_) | (refine IsLoad ?_; first | refine L1 rfl rfl rfl rfl ?_ | refine L2 rfl rfl rfl rfl rfl ?_) | (refine IsStore ?_; refine S1 rfl rfl rfl rfl rfl rfl rfl (fun _ => ?_)) | (refine IsBox ?_; refine N1 rfl rfl rfl rfl (fun _ => ?_)) | (refine IsAlloc ?_; refine N2 rfl rfl rfl rfl (fun _ => ?_)) | (refine IsBuild ?_; refine U1 rfl rfl rfl rfl rfl rfl ?_) | refine V1 rfl rfl rfl ?_) | (refine IsAt ?_; first | (with_reducible first | refine T1 ?_ | refine T3 ?_ | refine T5 ?_ | refine T6 ?_) | ((with_reducible show At _ (PBlock _ _ (Exit.exit _)) _ _); refine At_block_hit ?_)) | (refine IsJ ?_; first | refine J_seq ?_ | refine J_region ?_ | refine J_block ?_ | refine J_skip ?_ | refine J_ret ?_ | refine J_exit ?_ | (refine IsCond ?_; first | refine J_cond_t rfl ?_ | refine J_cond_f rfl ?_ | refine J_cb rfl (fun _ => ?_) (fun _ => ?_))))
  refine J_rangeFunc (ps := [35, 36]) rfl (fun k d R hrec => ?_)
  let Y : List RG × List Int → List HP := fun s => [pt k (.loop (R .ready none)), pt d (.deferred (some [])), blk b7 [.int .i64 w, sl bst nR, sl bf (nR + 1)] 104, blk bst (s.1.map cellG) 30, GW s.1, blk bf (intsV s.2) 3, blk b4 [ptr pm 0] 36] ++ marksL pm bm n ms ++ [blk b6 [.int .i64 0, .slice none 0 0, .slice none 0 0] 104]
  let Inv : Nat → List RG × List Int → Prop := fun i s => ∃ j, j ≤ os.length ∧ posAt os T j = i ∧ RI w nR (lvs ms (os.take j)) s.1 s.2
  let Stop : List RG × List Int → Prop := fun _ => False
  have hy : ∀ (i : Nat) (x : Int) (s : List RG × List Int), Inv i s → st[i]? = some true → ws[i]? = some x → wordB x = true → i + 1 + (unN x).toNat ≤ T →
      DoesV Try.prog (.func (.yield k) #[] #[]) [.int .i64 i, headV (unK x) (unN x) (unP x)] (heapL p bw bs n ws T st ++ Y s)
        (fun v l => (v = .bool true ∧ ∃ s', Inv (i + 1 + (unN x).toNat) s' ∧ l = heapL p bw bs n ws T st ++ Y s') ∨ (v = .bool false ∧ ∃ s', Stop s' ∧ l = heapL p bw bs n ws T st ++ Y s')) := by
    rintro i x ⟨rs, fs⟩ ⟨j, hj, hp, hI⟩ hs hx hg hle
    dsimp only at hI
    have hit := h.lt hs
    have hjl : j < os.length := by
      rcases Nat.lt_or_ge j os.length with e | e
      · exact e
      · obtain rfl : j = os.length := by omega
        rw [posAt_end] at hp; omega
    obtain ⟨o, ho⟩ : ∃ o, os[j]? = some o := ⟨os[j], List.getElem?_eq_getElem _⟩
    have hoi : o.i = i := by rw [← hp, posAt_of ho]
    have hpn := hc.pos ho
    have hat := (hc.at ho).2
    have hxo := hat.2.2.1
    have hob := hc.o_lt ho
    rw [hoi, hx] at hxo
    injection hxo with hxo
    obtain ⟨_, _, u1, u2, u3⟩ := packI_un hat.2.1
    rw [← hxo] at u1 u2 u3
    have hnx := lvs_next (ms := ms) ho
    rw [hoi] at hpn hob
    rw [u1, u2, u3]
    rw [u2] at hle
    refine DoesV.pre (pre := pt k (.loop (R .ready none)) :: (heapL p bw bs n ws T st ++ ([pt d (.deferred (some [])), blk b7 [.int .i64 w, sl bst nR, sl bf (nR + 1)] 104, blk bst (rs.map cellG) 30, GW rs, blk bf (intsV fs) 3, blk b4 [ptr pm 0] 36] ++ marksL pm bm n ms ++ [blk b6 [.int .i64 0, .slice none 0 0, .slice none 0 0] 104]))) ?_ (fun H hl => hl.perm (picks_perm (is := [3]) rfl))
    refine DoesV.yield hrec rfl (by decide) ?_
    intro W fr
    refine J_regs (g' := [(4, ptr b4 0), (7, ptr b7 0), (35, .int .i64 i), (36, headV o.k o.ws.length o.p)]) (by repeat (first | exact True.intro | refine And.intro rfl ?_)) ?_
    repeat' (first | (refine IsO ?_; first | refine JO_nil ?_ | (refine IsG ?_; refine G1 rfl rfl ?_) | (refine IsMove ?_; refine M5 rfl rfl rfl (fun _ => ?_) (fun _ => ?_)) | (refine IsBin ?_; first | refine B1 rfl rfl rfl rfl ?_ | refine B4 rfl rfl rfl rfl ?_) | (refine IsLoad ?_; first | refine L1 rfl rfl rfl rfl ?_ | refine L2 rfl rfl rfl rfl rfl ?_) | (refine IsStore ?_; refine S1 rfl rfl rfl rfl rfl rfl rfl (fun _ => ?_)) | (refine IsBox ?_; refine N1 rfl rfl rfl rfl (fun _ => ?_)) | (refine IsAlloc ?_; refine N2 rfl rfl rfl rfl (fun _ => ?_)) | (refine IsBuild ?_; refine U1 rfl rfl rfl rfl rfl rfl ?_) | refine V1 rfl rfl rfl ?_) | (refine IsAt ?_; first | (with_reducible first | refine T1 ?_ | refine T3 ?_ | refine T5 ?_ | refine T6 ?_) | ((with_reducible show At _ (PBlock _ _ (Exit.exit _)) _ _); refine At_block_hit ?_)) | (refine IsJ ?_; first | refine J_seq ?_ | refine J_region ?_ | refine J_block ?_ | refine J_skip ?_ | refine J_ret ?_ | refine J_exit ?_ | (refine IsCond ?_; first | refine J_cond_t rfl ?_ | refine J_cond_f rfl ?_ | refine J_cb rfl (fun _ => ?_) (fun _ => ?_))))
    rename_i b10 _
    refine At_asg hrec P1 ?_
    repeat' (first | (refine IsO ?_; first | refine JO_nil ?_ | (refine IsG ?_; refine G1 rfl rfl ?_) | (refine IsMove ?_; refine M5 rfl rfl rfl (fun _ => ?_) (fun _ => ?_)) | (refine IsBin ?_; first | refine B1 rfl rfl rfl rfl ?_ | refine B4 rfl rfl rfl rfl ?_) | (refine IsLoad ?_; first | refine L1 rfl rfl rfl rfl ?_ | refine L2 rfl rfl rfl rfl rfl ?_) | (refine IsStore ?_; refine S1 rfl rfl rfl rfl rfl rfl rfl (fun _ => ?_)) | (refine IsBox ?_; refine N1 rfl rfl rfl rfl (fun _ => ?_)) | (refine IsAlloc ?_; refine N2 rfl rfl rfl rfl (fun _ => ?_)) | (refine IsBuild ?_; refine U1 rfl rfl rfl rfl rfl rfl ?_) | refine V1 rfl rfl rfl ?_) | (refine IsAt ?_; first | (with_reducible first | refine T1 ?_ | refine T3 ?_ | refine T5 ?_ | refine T6 ?_) | ((with_reducible show At _ (PBlock _ _ (Exit.exit _)) _ _); refine At_block_hit ?_)) | (refine IsJ ?_; first | refine J_seq ?_ | refine J_region ?_ | refine J_block ?_ | refine J_skip ?_ | refine J_ret ?_ | refine J_exit ?_ | (refine IsCond ?_; first | refine J_cond_t rfl ?_ | refine J_cond_f rfl ?_ | refine J_cb rfl (fun _ => ?_) (fun _ => ?_))))
    · rename_i h15
      have hlv : lvB ms o = false := by unfold lvB; rw [decide_eq_false (by omega)]; rfl
      rw [hlv] at hnx
      refine At_roundEnd (.inl ⟨rfl, rfl⟩) hrec P0 (l' := heapL p bw bs n ws T st ++ Y (rs, fs)) (fun H hl => (hl.perm (picks_perm (is := [2, 2, 2, 0, 1, 1, 1, 1, 1, 1, 1, 1, 1]) rfl)).left) (.inl ⟨rfl, (rs, fs), ⟨j + 1, hjl, by rw [hpn, Int.toNat_natCast], by rw [hnx]; simpa using hI⟩, rfl⟩)
    · rename_i h15
      refine JO_l (OL_call [11, 11] rfl rfl rfl (Has_in i hM (by omega)) rfl) rfl rfl ?_; rintro _ _ ⟨_, ⟨rfl, rfl⟩, rfl⟩
      cases hb : bitB ms i with
      | false =>
        have hlv : lvB ms o = false := by unfold lvB; rw [hoi, hb, Bool.and_false]
        rw [hlv] at hnx
        repeat' (first | (refine IsO ?_; first | refine JO_nil ?_ | (refine IsG ?_; refine G1 rfl rfl ?_) | (refine IsMove ?_; refine M5 rfl rfl rfl (fun _ => ?_) (fun _ => ?_)) | (refine IsBin ?_; first | refine B1 rfl rfl rfl rfl ?_ | refine B4 rfl rfl rfl rfl ?_) | (refine IsLoad ?_; first | refine L1 rfl rfl rfl rfl ?_ | refine L2 rfl rfl rfl rfl rfl ?_) | (refine IsStore ?_; refine S1 rfl rfl rfl rfl rfl rfl rfl (fun _ => ?_)) | (refine IsBox ?_; refine N1 rfl rfl rfl rfl (fun _ => ?_)) | (refine IsAlloc ?_; refine N2 rfl rfl rfl rfl (fun _ => ?_)) | (refine IsBuild ?_; refine U1 rfl rfl rfl rfl rfl rfl ?_) | refine V1 rfl rfl rfl ?_) | (refine IsAt ?_; first | (with_reducible first | refine T1 ?_ | refine T3 ?_ | refine T5 ?_ | refine T6 ?_) | ((with_reducible show At _ (PBlock _ _ (Exit.exit _)) _ _); refine At_block_hit ?_)) | (refine IsJ ?_; first | refine J_seq ?_ | refine J_region ?_ | refine J_block ?_ | refine J_skip ?_ | refine J_ret ?_ | refine J_exit ?_ | (refine IsCond ?_; first | refine J_cond_t rfl ?_ | refine J_cond_f rfl ?_ | refine J_cb rfl (fun _ => ?_) (fun _ => ?_))))
        refine At_roundEnd (.inl ⟨rfl, rfl⟩) hrec P2 (l' := heapL p bw bs n ws T st ++ Y (rs, fs)) (fun H hl => (hl.perm (picks_perm (is := [4, 4, 4, 0, 3, 3, 3, 3, 3, 3, 0, 0, 1]) rfl)).left) (.inl ⟨rfl, (rs, fs), ⟨j + 1, hjl, by rw [hpn, Int.toNat_natCast], by rw [hnx]; simpa using hI⟩, rfl⟩)
      | true =>
        have hlv : lvB ms o = true := by unfold lvB; rw [hoi, hb, Bool.and_true]; exact decide_eq_true h15
        rw [hlv] at hnx
        have hkw : (i : Int) / (w : Int) = ((i / w : Nat) : Int) := (Int.natCast_ediv _ _).symm
        have hkn : i / w < nR := by rw [hnR]; exact numR_lt hw1 hit
        have hrl := hI.rl
        have hfl := hI.fl
        have hlen := hc.len
        obtain ⟨q, hq⟩ : ∃ q, q = i / w := ⟨_, rfl⟩
        rw [← hq] at hkw hkn
        obtain ⟨r, hr⟩ : ∃ r, rs[q]? = some r := ⟨rs[q]'(by omega), List.getElem?_eq_getElem _⟩
        have hrc := hI.rc q r hr
        have hrcl : r.c.length ≤ 65536 := by
          have h1 := stI_len (w := w) (k := q) (L := lvs ms (os.take j))
          have h2 := lvs_len (ms := ms) (os := os) (j := j)
          rw [← hrc] at h1
          omega
        have hfq := hI.fc q hkn
        have hszb : szL (inR w q (lvs ms (os.take j))) ≤ 65536 := by
          have h1 : szL (inR w q (lvs ms (os.take j))) ≤ szL (lvs ms (os.take j)) := szL_filter
          have h2 := lvs_le (ms := ms) (os := os) (j := j)
          omega
        repeat' (first | (refine IsO ?_; first | refine JO_nil ?_ | (refine IsG ?_; refine G1 rfl rfl ?_) | (refine IsMove ?_; refine M5 rfl rfl rfl (fun _ => ?_) (fun _ => ?_)) | (refine IsBin ?_; first | refine B1 rfl rfl rfl rfl ?_ | refine B4 rfl rfl rfl rfl ?_) | (refine IsLoad ?_; first | refine L1 rfl rfl rfl rfl ?_ | refine L2 rfl rfl rfl rfl rfl ?_) | (refine IsStore ?_; refine S1 rfl rfl rfl rfl rfl rfl rfl (fun _ => ?_)) | (refine IsBox ?_; refine N1 rfl rfl rfl rfl (fun _ => ?_)) | (refine IsAlloc ?_; refine N2 rfl rfl rfl rfl (fun _ => ?_)) | (refine IsBuild ?_; refine U1 rfl rfl rfl rfl rfl rfl ?_) | refine V1 rfl rfl rfl ?_) | (refine IsAt ?_; first | (with_reducible first | refine T1 ?_ | refine T3 ?_ | refine T5 ?_ | refine T6 ?_) | ((with_reducible show At _ (PBlock _ _ (Exit.exit _)) _ _); refine At_block_hit ?_)) | (refine IsJ ?_; first | refine J_seq ?_ | refine J_region ?_ | refine J_block ?_ | refine J_skip ?_ | refine J_ret ?_ | refine J_exit ?_ | (refine IsCond ?_; first | refine J_cond_t rfl ?_ | refine J_cond_f rfl ?_ | refine J_cb rfl (fun _ => ?_) (fun _ => ?_))))
        rw [hkw]
        repeat' (first | (refine IsO ?_; first | refine JO_nil ?_ | (refine IsG ?_; refine G1 rfl rfl ?_) | (refine IsMove ?_; refine M5 rfl rfl rfl (fun _ => ?_) (fun _ => ?_)) | (refine IsBin ?_; first | refine B1 rfl rfl rfl rfl ?_ | refine B4 rfl rfl rfl rfl ?_) | (refine IsLoad ?_; first | refine L1 rfl rfl rfl rfl ?_ | refine L2 rfl rfl rfl rfl rfl ?_) | (refine IsStore ?_; refine S1 rfl rfl rfl rfl rfl rfl rfl (fun _ => ?_)) | (refine IsBox ?_; refine N1 rfl rfl rfl rfl (fun _ => ?_)) | (refine IsAlloc ?_; refine N2 rfl rfl rfl rfl (fun _ => ?_)) | (refine IsBuild ?_; refine U1 rfl rfl rfl rfl rfl rfl ?_) | refine V1 rfl rfl rfl ?_) | (refine IsAt ?_; first | (with_reducible first | refine T1 ?_ | refine T3 ?_ | refine T5 ?_ | refine T6 ?_) | ((with_reducible show At _ (PBlock _ _ (Exit.exit _)) _ _); refine At_block_hit ?_)) | (refine IsJ ?_; first | refine J_seq ?_ | refine J_region ?_ | refine J_block ?_ | refine J_skip ?_ | refine J_ret ?_ | refine J_exit ?_ | (refine IsCond ?_; first | refine J_cond_t rfl ?_ | refine J_cond_f rfl ?_ | refine J_cb rfl (fun _ => ?_) (fun _ => ?_))))
        refine J_hp (l' := rowG r :: GW (rs.eraseIdx q) :: ([blk b7 [.int .i64 w, sl bst nR, sl bf (nR + 1)] 104, blk bst (rs.map cellG) 30, blk bf (intsV fs) 3, pt k (.loop (R .busy none)), blk b10 [.int .i64 o.k, .int .i64 o.ws.length, .int .i64 o.p] 45] ++ heapL p bw bs n ws T st ++ [pt d (.deferred (some [])), blk b4 [ptr pm 0] 36] ++ marksL pm bm n ms ++ [blk b6 [.int .i64 0, .slice none 0 0, .slice none 0 0] 104])) (fun H hl => GW.out hr (hl.pick (is := [10, 8, 8, 8, 2, 2, 2, 2, 2, 2, 2, 0, 0, 0]) rfl)) ?_
        refine J_plan [blk b7 [.int .i64 w, sl bst nR, sl bf (nR + 1)] 104, blk bst (rs.map cellG) 30] (fun H hl => hl.pick (is := [2, 2]) rfl) [0, 5, 0, 0, 5, 0, 0, 5, 0, 2, 2, 0, 6]
          (.q 0 (.q 1 (.q 2 (.q 3 (.q 4 (.q 5 (.q 6 (.q 7 (.q 8 (.l1 9 (.l1 10 (.q 11 (.l1 12 .fin))))))))))))) (by kernel_rfl) (by kernel_rfl) ?_
        repeat' (refine IsF ?_; first | (refine JF_fin ?_; refine At_np ?_) | (refine JF_op rfl ?_; refine FsO ?_; first | (refine FsLoad ?_; refine FL1k rfl rfl rfl rfl rfl ?_) | refine FV1 rfl rfl rfl ?_))
        refine JF_val rfl (OV_idx (off := q) rfl rfl rfl rfl (by omega) (by omega) (by rw [Int.toNat_natCast]; simp)) rfl rfl ?_
        refine JF_kept rfl rfl (OK_load (v := cellG r) rfl rfl (by repeat (first | exact .head _ | refine .tail _ ?_)) (by rw [List.getElem?_map, hr]; rfl)) rfl rfl ?_
        repeat' (refine IsF ?_; first | (refine JF_fin ?_; refine At_np ?_) | (refine JF_op rfl ?_; refine FsO ?_; first | (refine FsLoad ?_; refine FL1k rfl rfl rfl rfl rfl ?_) | refine FV1 rfl rfl rfl ?_))
        refine JF_l1 (JFO_l rfl (OL_buildSlice (cs := [.int .i64 i]) rfl rfl rfl rfl rfl rfl rfl rfl) rfl rfl (.inr ?_) ?_)
        · rintro _ _ ⟨bb, rfl, rfl⟩ H hl
          exact hl.pick (is := [3, 3]) rfl
        rintro _ _ ⟨bb, rfl, rfl⟩ _
        refine JF_l1 (JFO_l rfl (OL_appendr (m := 1) rfl rfl rfl rfl rfl P1 ((Reads.blk rfl).src (.head _)) rfl rfl (fun _ h => by cases h) (by omega) (by omega) (by decide)) rfl rfl (.inr ?_) ?_)
        · rintro _ _ ⟨ta2, tc2, rfl, rfl⟩ H hl
          exact hl.pick (is := [3, 3]) rfl
        rintro _ _ ⟨ta2, tc2, rfl, rfl⟩ _
        repeat' (refine IsF ?_; first | (refine JF_fin ?_; refine At_np ?_) | (refine JF_op rfl ?_; refine FsO ?_; first | (refine FsLoad ?_; refine FL1k rfl rfl rfl rfl rfl ?_) | refine FV1 rfl rfl rfl ?_))
        refine JF_val rfl (OV_idx (off := q) rfl rfl rfl rfl (by omega) (by omega) (by rw [Int.toNat_natCast]; simp)) rfl rfl ?_
        refine JF_l1 (JFO_l0 rfl (OL_store (i := 4) rfl rfl rfl rfl rfl rfl rfl (putL_cellG ⟨r.c ++ [(i : Int)], ta2, tc2⟩ (by omega) (by simp))) rfl (.inl rfl) ?_)
        rintro _ _ rfl _
        repeat' (refine IsF ?_; first | (refine JF_fin ?_; refine At_np ?_) | (refine JF_op rfl ?_; refine FsO ?_; first | (refine FsLoad ?_; refine FL1k rfl rfl rfl rfl rfl ?_) | refine FV1 rfl rfl rfl ?_))
        obtain ⟨r2, hr2⟩ : ∃ r2 : RG, r2 = ⟨r.c ++ [(i : Int)], ta2, tc2⟩ := ⟨_, rfl⟩
        have hI2 := hI.step (o := o) (by rw [hoi, ← hq]; exact hkn) (r := r) (r' := r2) (by rw [hoi, ← hq]; exact hr) (by rw [hr2, hoi])
        rw [hoi, ← hq] at hI2
        refine At_hp (l' := GW (rs.set q r2) :: ([blk b7 [.int .i64 w, sl bst nR, sl bf (nR + 1)] 104, blk bst ((rs.set q r2).map cellG) 30, blk bf (intsV fs) 3, pt k (.loop (R .busy none)), blk b10 [.int .i64 o.k, .int .i64 o.ws.length, .int .i64 o.p] 45] ++ heapL p bw bs n ws T st ++ [pt d (.deferred (some [])), blk b4 [ptr pm 0] 36] ++ marksL pm bm n ms ++ [blk b6 [.int .i64 0, .slice none 0 0, .slice none 0 0] 104])) (fun H hl => ?_) ?_
        · rw [hr2]
          refine GW.back (by omega) ?_
          have h2 := hl.pick (is := [1, 2, 2, 0, 1, 1, 1, 1, 1, 1, 1, 1, 1, 1, 1]) rfl
          show Stars (rowz 3 1 ta2 (r.c ++ [(i : Int)]).length tc2 (intsV (r.c ++ [(i : Int)])) :: _) H
          rw [List.length_append, show intsV (r.c ++ [(i : Int)]) = intsV r.c ++ [.int .i64 i] from List.map_append]
          exact h2
        repeat' (first | (refine IsO ?_; first | refine JO_nil ?_ | (refine IsG ?_; refine G1 rfl rfl ?_) | (refine IsMove ?_; refine M5 rfl rfl rfl (fun _ => ?_) (fun _ => ?_)) | (refine IsBin ?_; first | refine B1 rfl rfl rfl rfl ?_ | refine B4 rfl rfl rfl rfl ?_) | (refine IsLoad ?_; first | refine L1 rfl rfl rfl rfl ?_ | refine L2 rfl rfl rfl rfl rfl ?_) | (refine IsStore ?_; refine S1 rfl rfl rfl rfl rfl rfl rfl (fun _ => ?_)) | (refine IsBox ?_; refine N1 rfl rfl rfl rfl (fun _ => ?_)) | (refine IsAlloc ?_; refine N2 rfl rfl rfl rfl (fun _ => ?_)) | (refine IsBuild ?_; refine U1 rfl rfl rfl rfl rfl rfl ?_) | refine V1 rfl rfl rfl ?_) | (refine IsAt ?_; first | (with_reducible first | refine T1 ?_ | refine T3 ?_ | refine T5 ?_ | refine T6 ?_) | ((with_reducible show At _ (PBlock _ _ (Exit.exit _)) _ _); refine At_block_hit ?_)) | (refine IsJ ?_; first | refine J_seq ?_ | refine J_region ?_ | refine J_block ?_ | refine J_skip ?_ | refine J_ret ?_ | refine J_exit ?_ | (refine IsCond ?_; first | refine J_cond_t rfl ?_ | refine J_cond_f rfl ?_ | refine J_cb rfl (fun _ => ?_) (fun _ => ?_))))
        refine J_draw [0, 1, 0, 0, 0, 1, 0, 1, 0, 0, 0, 2] (List.range 12) (by kernel_rfl) (by kernel_rfl) ?_
        repeat' (refine IsX ?_; first | (refine JX_nil ?_; refine At_np ?_) | (refine JX_op rfl ?_; refine XsO ?_; first | (refine XsBin ?_; first | refine XB1 rfl rfl rfl rfl rfl ?_ | refine XB2 rfl rfl rfl rfl rfl ?_ | refine XB4 rfl rfl rfl rfl rfl ?_) | (refine XsLoad ?_; first | refine XL1k rfl rfl rfl rfl rfl ?_ | refine XL1 rfl rfl rfl rfl rfl ?_) | refine XV1 rfl rfl rfl rfl ?_))
        refine JX_val rfl rfl (OV_idx (off := q + 1) rfl rfl rfl rfl (by omega) (by omega) (by omega)) rfl rfl ?_
        refine JX_q rfl rfl (OQ_load (v := .int .i64 (szL (inR w q (lvs ms (os.take j))) : Nat)) rfl rfl (by repeat (first | exact .head _ | refine .tail _ ?_)) (by rw [List.getElem?_map, hfq]; rfl)) rfl rfl ?_
        repeat' (refine IsX ?_; first | (refine JX_nil ?_; refine At_np ?_) | (refine JX_op rfl ?_; refine XsO ?_; first | (refine XsBin ?_; first | refine XB1 rfl rfl rfl rfl rfl ?_ | refine XB2 rfl rfl rfl rfl rfl ?_ | refine XB4 rfl rfl rfl rfl rfl ?_) | (refine XsLoad ?_; first | refine XL1k rfl rfl rfl rfl rfl ?_ | refine XL1 rfl rfl rfl rfl rfl ?_) | refine XV1 rfl rfl rfl rfl ?_))
        refine JX_val rfl rfl (OV_idx (off := q + 1) rfl rfl rfl rfl (by omega) (by omega) (by omega)) rfl rfl ?_
        refine JX_l0 rfl rfl (OL_store (i := 3) rfl rfl rfl rfl rfl rfl rfl (putL_ints _ (by omega))) rfl ?_
        rintro _ _ rfl
        repeat' (refine IsX ?_; first | (refine JX_nil ?_; refine At_np ?_) | (refine JX_op rfl ?_; refine XsO ?_; first | (refine XsBin ?_; first | refine XB1 rfl rfl rfl rfl rfl ?_ | refine XB2 rfl rfl rfl rfl rfl ?_ | refine XB4 rfl rfl rfl rfl rfl ?_) | (refine XsLoad ?_; first | refine XL1k rfl rfl rfl rfl rfl ?_ | refine XL1 rfl rfl rfl rfl rfl ?_) | refine XV1 rfl rfl rfl rfl ?_))
        repeat' (first | (refine IsO ?_; first | refine JO_nil ?_ | (refine IsG ?_; refine G1 rfl rfl ?_) | (refine IsMove ?_; refine M5 rfl rfl rfl (fun _ => ?_) (fun _ => ?_)) | (refine IsBin ?_; first | refine B1 rfl rfl rfl rfl ?_ | refine B4 rfl rfl rfl rfl ?_) | (refine IsLoad ?_; first | refine L1 rfl rfl rfl rfl ?_ | refine L2 rfl rfl rfl rfl rfl ?_) | (refine IsStore ?_; refine S1 rfl rfl rfl rfl rfl rfl rfl (fun _ => ?_)) | (refine IsBox ?_; refine N1 rfl rfl rfl rfl (fun _ => ?_)) | (refine IsAlloc ?_; refine N2 rfl rfl rfl rfl (fun _ => ?_)) | (refine IsBuild ?_; refine U1 rfl rfl rfl rfl rfl rfl ?_) | refine V1 rfl rfl rfl ?_) | (refine IsAt ?_; first | (with_reducible first | refine T1 ?_ | refine T3 ?_ | refine T5 ?_ | refine T6 ?_) | ((with_reducible show At _ (PBlock _ _ (Exit.exit _)) _ _); refine At_block_hit ?_)) | (refine IsJ ?_; first | refine J_seq ?_ | refine J_region ?_ | refine J_block ?_ | refine J_skip ?_ | refine J_ret ?_ | refine J_exit ?_ | (refine IsCond ?_; first | refine J_cond_t rfl ?_ | refine J_cond_f rfl ?_ | refine J_cb rfl (fun _ => ?_) (fun _ => ?_))))
        refine At_roundEnd (.inl ⟨rfl, rfl⟩) hrec P4 (l' := heapL p bw bs n ws T st ++ Y (rs.set q r2, fs.set (q + 1) ((szL (inR w q (lvs ms (os.take j))) : Nat) + (1 + (o.ws.length : Int))))) (fun H hl => (hl.perm (picks_perm (is := [6, 6, 6, 0, 5, 2, 2, 1, 0, 1, 1, 1, 1]) rfl)).left) (.inl ⟨rfl, _, ⟨j + 1, hjl, by rw [hpn, Int.toNat_natCast], by rw [hnx]; exact hI2⟩, rfl⟩)
  refine ⟨_, [], _, (fun H hl => ?_), walkGen (bh := bh) (.func (.yield k) #[] #[]) Y Inv Stop h hy (List.replicate nR ⟨[], none, 0⟩, List.replicate (nR + 1) 0) ⟨0, Nat.zero_le _, hc.pos0, RI.new w nR⟩, ?_⟩
  · have h2 := (GW_new nR hl).pick (is := [3, 6, 6, 6, 1, 1, 1, 2, 0, 0, 1, 1, 1, 0]) rfl
    have e1 : (List.replicate nR (⟨[], none, 0⟩ : RG)).map cellG = List.replicate nR (.slice none 0 0) := List.map_replicate
    have e2 : intsV (List.replicate (nR + 1) 0) = List.replicate (nR + 1) (.int .i64 0) := List.map_replicate
    show Stars (blk bh [ptr p 0] 29 :: (heapL p bw bs n ws T st ++ ([pt k (.loop (R .ready none)), pt d (.deferred (some [])), blk b7 [.int .i64 w, sl bst nR, sl bf (nR + 1)] 104, blk bst ((List.replicate nR (⟨[], none, 0⟩ : RG)).map cellG) 30, GW (List.replicate nR ⟨[], none, 0⟩), blk bf (intsV (List.replicate (nR + 1) 0)) 3, blk b4 [ptr pm 0] 36] ++ marksL pm bm n ms ++ [blk b6 [.int .i64 0, .slice none 0 0, .slice none 0 0] 104])) ++ []) H
    rw [e1, e2]
    exact h2
  rintro v l1 ⟨⟨rs, fs⟩, hs, rfl, rfl⟩
  obtain ⟨j, hj, hp, hI⟩ := hs.resolve_right (fun h => h)
  dsimp only at hI
  have hjo : j = os.length := by
    rcases Nat.lt_or_ge j os.length with e | e
    · obtain ⟨o, ho⟩ : ∃ o, os[j]? = some o := ⟨os[j], List.getElem?_eq_getElem _⟩
      rw [posAt_of ho] at hp
      have := hc.o_lt ho
      omega
    · omega
  subst hjo
  rw [List.take_length] at hI
  have hfl := hI.fl
  have hP := hI.sums
  have hRO : RegOk w T ms os rs := ⟨by rw [hI.rl, hnR], hI.rc⟩
  have hszb : szL (lvs ms os) ≤ 65536 := by
    have h2 := lvs_le (ms := ms) (os := os) (j := os.length)
    rw [List.take_length] at h2
    omega
  refine ⟨.ready, none, [pt d (.deferred (some [])), blk b7 [.int .i64 w, sl bst nR, sl bf (nR + 1)] 104, blk bst (rs.map cellG) 30, GW rs, blk bf (intsV fs) 3] ++ heapL p bw bs n ws T st ++ marksL pm bm n ms ++ [blk b4 [ptr pm 0] 36, blk b6 [.int .i64 0, .slice none 0 0, .slice none 0 0] 104], by decide, fun H hl => hl.pick (is := [4, 4, 4, 4, 4, 4, 1, 1, 1, 2, 2, 1, 1]) rfl, fun _ => ?_, fun c hc => by cases hc⟩
  refine At_block_normal ?_
  rw [PThen_D (D' := [⟨.collected d, #[]⟩])]
  refine At_then_normal ?_
  repeat' (first | (refine IsO ?_; first | refine JO_nil ?_ | (refine IsG ?_; refine G1 rfl rfl ?_) | (refine IsMove ?_; refine M5 rfl rfl rfl (fun _ => ?_) (fun _ => ?_)) | (refine IsBin ?_; first | refine B1 rfl rfl rfl rfl ?_ | refine B4 rfl rfl rfl rfl ?_) | (refine IsLoad ?_; first | refine L1 rfl rfl rfl rfl ?_ | refine L2 rfl rfl rfl rfl rfl ?_) | (refine IsStore ?_; refine S1 rfl rfl rfl rfl rfl rfl rfl (fun _ => ?_)) | (refine IsBox ?_; refine N1 rfl rfl rfl rfl (fun _ => ?_)) | (refine IsAlloc ?_; refine N2 rfl rfl rfl rfl (fun _ => ?_)) | (refine IsBuild ?_; refine U1 rfl rfl rfl rfl rfl rfl ?_) | refine V1 rfl rfl rfl ?_) | (refine IsAt ?_; first | (with_reducible first | refine T1 ?_ | refine T3 ?_ | refine T5 ?_ | refine T6 ?_) | ((with_reducible show At _ (PBlock _ _ (Exit.exit _)) _ _); refine At_block_hit ?_)) | (refine IsJ ?_; first | refine J_seq ?_ | refine J_region ?_ | refine J_block ?_ | refine J_skip ?_ | refine J_ret ?_ | refine J_exit ?_ | (refine IsCond ?_; first | refine J_cond_t rfl ?_ | refine J_cond_f rfl ?_ | refine J_cb rfl (fun _ => ?_) (fun _ => ?_))))
  refine J_loop (α := Nat × List Int) (fun x => x.1 ≤ nR ∧ PI w nR (lvs ms os) x.1 x.2)
    (fun x => [(6, ptr b6 0), (7, ptr b7 0), (73, .int .i64 nR), (74, .int .i64 x.1)])
    (fun x => blk bf (intsV x.2) 3 :: [pt d (.deferred (some [])), blk b7 [.int .i64 w, sl bst nR, sl bf (nR + 1)] 104, blk bst (rs.map cellG) 30, GW rs] ++ heapL p bw bs n ws T st ++ marksL pm bm n ms ++ [blk b6 [.int .i64 0, .slice none 0 0, .slice none 0 0] 104])
    (fun x => nR - x.1) (0, fs) ⟨Nat.zero_le _, hP⟩ (by repeat (first | exact True.intro | refine And.intro rfl ?_)) (fun H hl => hl.pick (is := [4, 0, 0, 0, 0, 0, 0, 0, 0, 0, 1]) rfl) ?_
  clear hP hfl hI
  rintro ⟨q, fs⟩ ⟨hq, hP⟩
  dsimp only at hq hP ⊢
  have hfl := hP.fl
  repeat' (first | (refine IsO ?_; first | refine JO_nil ?_ | (refine IsG ?_; refine G1 rfl rfl ?_) | (refine IsMove ?_; refine M5 rfl rfl rfl (fun _ => ?_) (fun _ => ?_)) | (refine IsBin ?_; first | refine B1 rfl rfl rfl rfl ?_ | refine B4 rfl rfl rfl rfl ?_) | (refine IsLoad ?_; first | refine L1 rfl rfl rfl rfl ?_ | refine L2 rfl rfl rfl rfl rfl ?_) | (refine IsStore ?_; refine S1 rfl rfl rfl rfl rfl rfl rfl (fun _ => ?_)) | (refine IsBox ?_; refine N1 rfl rfl rfl rfl (fun _ => ?_)) | (refine IsAlloc ?_; refine N2 rfl rfl rfl rfl (fun _ => ?_)) | (refine IsBuild ?_; refine U1 rfl rfl rfl rfl rfl rfl ?_) | refine V1 rfl rfl rfl ?_) | (refine IsAt ?_; first | (with_reducible first | refine T1 ?_ | refine T3 ?_ | refine T5 ?_ | refine T6 ?_) | ((with_reducible show At _ (PBlock _ _ (Exit.exit _)) _ _); refine At_block_hit ?_)) | (refine IsJ ?_; first | refine J_seq ?_ | refine J_region ?_ | refine J_skip ?_ | refine J_ret ?_ | refine J_exit ?_ | (refine IsCond ?_; first | refine J_cond_t rfl ?_ | refine J_cond_f rfl ?_ | refine J_cb rfl (fun _ => ?_) (fun _ => ?_))))
  · rename_i hlt
    refine J_block ?_
    have h1 := hP.fb q (Nat.le_refl _)
    have h2 := hP.fc q (Nat.le_refl _) (by omega)
    have b1 : szL (befR w q (lvs ms os)) ≤ 65536 := Nat.le_trans szL_filter hszb
    have b2 : szL (inR w q (lvs ms os)) ≤ 65536 := Nat.le_trans szL_filter hszb
    have hP2 := hP.step (by omega)
    repeat' (first | (refine IsO ?_; first | refine JO_nil ?_ | (refine IsG ?_; refine G1 rfl rfl ?_) | (refine IsMove ?_; refine M5 rfl rfl rfl (fun _ => ?_) (fun _ => ?_)) | (refine IsBin ?_; first | refine B1 rfl rfl rfl rfl ?_ | refine B4 rfl rfl rfl rfl ?_) | (refine IsLoad ?_; first | refine L1 rfl rfl rfl rfl ?_ | refine L2 rfl rfl rfl rfl rfl ?_) | (refine IsStore ?_; refine S1 rfl rfl rfl rfl rfl rfl rfl (fun _ => ?_)) | (refine IsBox ?_; refine N1 rfl rfl rfl rfl (fun _ => ?_)) | (refine IsAlloc ?_; refine N2 rfl rfl rfl rfl (fun _ => ?_)) | (refine IsBuild ?_; refine U1 rfl rfl rfl rfl rfl rfl ?_) | refine V1 rfl rfl rfl ?_) | (refine IsAt ?_; first | (with_reducible first | refine T1 ?_ | refine T3 ?_ | refine T5 ?_ | refine T6 ?_) | ((with_reducible show At _ (PBlock _ _ (Exit.exit _)) _ _); refine At_block_hit ?_)) | (refine IsJ ?_; first | refine J_seq ?_ | refine J_region ?_ | refine J_block ?_ | refine J_skip ?_ | refine J_ret ?_ | refine J_exit ?_ | (refine IsCond ?_; first | refine J_cond_t rfl ?_ | refine J_cond_f rfl ?_ | refine J_cb rfl (fun _ => ?_) (fun _ => ?_))))
    refine J_draw [0, 1, 0, 0, 0, 1, 0, 1, 0, 0, 1, 0, 0, 2] (List.range 14) (by kernel_rfl) (by kernel_rfl) ?_
    repeat' (refine IsX ?_; first | (refine JX_nil ?_; refine At_np ?_) | (refine JX_op rfl ?_; refine XsO ?_; first | (refine XsBin ?_; first | refine XB1 rfl rfl rfl rfl rfl ?_ | refine XB2 rfl rfl rfl rfl rfl ?_ | refine XB4 rfl rfl rfl rfl rfl ?_) | (refine XsLoad ?_; first | refine XL1k rfl rfl rfl rfl rfl ?_ | refine XL1 rfl rfl rfl rfl rfl ?_) | refine XV1 rfl rfl rfl rfl ?_))
    refine JX_val rfl rfl (OV_idx (off := q + 1) rfl rfl rfl rfl (by omega) (by omega) (by omega)) rfl rfl ?_
    refine JX_q rfl rfl (OQ_load (v := .int .i64 (szL (inR w q (lvs ms os)) : Nat)) rfl rfl (by repeat (first | exact .head _ | refine .tail _ ?_)) (by rw [List.getElem?_map, h2]; rfl)) rfl rfl ?_
    repeat' (refine IsX ?_; first | (refine JX_nil ?_; refine At_np ?_) | (refine JX_op rfl ?_; refine XsO ?_; first | (refine XsBin ?_; first | refine XB1 rfl rfl rfl rfl rfl ?_ | refine XB2 rfl rfl rfl rfl rfl ?_ | refine XB4 rfl rfl rfl rfl rfl ?_) | (refine XsLoad ?_; first | refine XL1k rfl rfl rfl rfl rfl ?_ | refine XL1 rfl rfl rfl rfl rfl ?_) | refine XV1 rfl rfl rfl rfl ?_))
    refine JX_val rfl rfl (OV_idx (off := q) rfl rfl rfl rfl (by omega) (by omega) (by omega)) rfl rfl ?_
    refine JX_q rfl rfl (OQ_load (v := .int .i64 (szL (befR w q (lvs ms os)) : Nat)) rfl rfl (by repeat (first | exact .head _ | refine .tail _ ?_)) (by rw [List.getElem?_map, h1]; rfl)) rfl rfl ?_
    repeat' (refine IsX ?_; first | (refine JX_nil ?_; refine At_np ?_) | (refine JX_op rfl ?_; refine XsO ?_; first | (refine XsBin ?_; first | refine XB1 rfl rfl rfl rfl rfl ?_ | refine XB2 rfl rfl rfl rfl rfl ?_ | refine XB4 rfl rfl rfl rfl rfl ?_) | (refine XsLoad ?_; first | refine XL1k rfl rfl rfl rfl rfl ?_ | refine XL1 rfl rfl rfl rfl rfl ?_) | refine XV1 rfl rfl rfl rfl ?_))
    refine JX_val rfl rfl (OV_idx (off := q + 1) rfl rfl rfl rfl (by omega) (by omega) (by omega)) rfl rfl ?_
    refine JX_l0 rfl rfl (OL_store (i := 0) rfl rfl rfl rfl rfl rfl rfl (putL_ints _ (by omega))) rfl ?_
    rintro _ _ rfl
    repeat' (refine IsX ?_; first | (refine JX_nil ?_; refine At_np ?_) | (refine JX_op rfl ?_; refine XsO ?_; first | (refine XsBin ?_; first | refine XB1 rfl rfl rfl rfl rfl ?_ | refine XB2 rfl rfl rfl rfl rfl ?_ | refine XB4 rfl rfl rfl rfl rfl ?_) | (refine XsLoad ?_; first | refine XL1k rfl rfl rfl rfl rfl ?_ | refine XL1 rfl rfl rfl rfl rfl ?_) | refine XV1 rfl rfl rfl rfl ?_))
    repeat' (first | (refine IsO ?_; first | refine JO_nil ?_ | (refine IsG ?_; refine G1 rfl rfl ?_) | (refine IsMove ?_; refine M5 rfl rfl rfl (fun _ => ?_) (fun _ => ?_)) | (refine IsBin ?_; first | refine B1 rfl rfl rfl rfl ?_ | refine B4 rfl rfl rfl rfl ?_) | (refine IsLoad ?_; first | refine L1 rfl rfl rfl rfl ?_ | refine L2 rfl rfl rfl rfl rfl ?_) | (refine IsStore ?_; refine S1 rfl rfl rfl rfl rfl rfl rfl (fun _ => ?_)) | (refine IsBox ?_; refine N1 rfl rfl rfl rfl (fun _ => ?_)) | (refine IsAlloc ?_; refine N2 rfl rfl rfl rfl (fun _ => ?_)) | (refine IsBuild ?_; refine U1 rfl rfl rfl rfl rfl rfl ?_) | refine V1 rfl rfl rfl ?_) | (refine IsAt ?_; first | (with_reducible first | refine T1 ?_ | refine T3 ?_ | refine T5 ?_ | refine T6 ?_) | ((with_reducible show At _ (PBlock _ _ (Exit.exit _)) _ _); refine At_block_hit ?_)) | (refine IsJ ?_; first | refine J_seq ?_ | refine J_region ?_ | refine J_block ?_ | refine J_skip ?_ | refine J_ret ?_ | refine J_exit ?_ | (refine IsCond ?_; first | refine J_cond_t rfl ?_ | refine J_cond_f rfl ?_ | refine J_cb rfl (fun _ => ?_) (fun _ => ?_))))
    exact At_round (q + 1, _) (by show nR - (q + 1) < nR - q; omega) ⟨by show q + 1 ≤ nR; omega, hP2⟩ (by repeat (first | exact True.intro | refine And.intro rfl ?_)) (fun H hl => hl)
  obtain rfl : q = nR := by omega
  have hfe := hP.end_
  subst hfe
  repeat' (first | (refine IsO ?_; first | refine JO_nil ?_ | (refine IsG ?_; refine G1 rfl rfl ?_) | (refine IsMove ?_; refine M5 rfl rfl rfl (fun _ => ?_) (fun _ => ?_)) | (refine IsBin ?_; first | refine B1 rfl rfl rfl rfl ?_ | refine B4 rfl rfl rfl rfl ?_) | (refine IsLoad ?_; first | refine L1 rfl rfl rfl rfl ?_ | refine L2 rfl rfl rfl rfl rfl ?_) | (refine IsStore ?_; refine S1 rfl rfl rfl rfl rfl rfl rfl (fun _ => ?_)) | (refine IsBox ?_; refine N1 rfl rfl rfl rfl (fun _ => ?_)) | (refine IsAlloc ?_; refine N2 rfl rfl rfl rfl (fun _ => ?_)) | (refine IsBuild ?_; refine U1 rfl rfl rfl rfl rfl rfl ?_) | refine V1 rfl rfl rfl ?_) | (refine IsAt ?_; first | (with_reducible first | refine T1 ?_ | refine T3 ?_ | refine T5 ?_ | refine T6 ?_) | ((with_reducible show At _ (PBlock _ _ (Exit.exit _)) _ _); refine At_block_hit ?_)) | (refine IsJ ?_; first | refine J_seq ?_ | refine J_region ?_ | refine J_block ?_ | refine J_skip ?_ | refine J_ret ?_ | refine J_exit ?_ | (refine IsCond ?_; first | refine J_cond_t rfl ?_ | refine J_cond_f rfl ?_ | refine J_cb rfl (fun _ => ?_) (fun _ => ?_))))
  refine JO_l0 (OL_store (i := 10) rfl rfl rfl rfl rfl rfl rfl (by rfl)) rfl ?_
  rintro _ _ rfl
  repeat' (first | (refine IsO ?_; first | refine JO_nil ?_ | (refine IsG ?_; refine G1 rfl rfl ?_) | (refine IsMove ?_; refine M5 rfl rfl rfl (fun _ => ?_) (fun _ => ?_)) | (refine IsBin ?_; first | refine B1 rfl rfl rfl rfl ?_ | refine B4 rfl rfl rfl rfl ?_) | (refine IsLoad ?_; first | refine L1 rfl rfl rfl rfl ?_ | refine L2 rfl rfl rfl rfl rfl ?_) | (refine IsStore ?_; refine S1 rfl rfl rfl rfl rfl rfl rfl (fun _ => ?_)) | (refine IsBox ?_; refine N1 rfl rfl rfl rfl (fun _ => ?_)) | (refine IsAlloc ?_; refine N2 rfl rfl rfl rfl (fun _ => ?_)) | (refine IsBuild ?_; refine U1 rfl rfl rfl rfl rfl rfl ?_) | refine V1 rfl rfl rfl ?_) | (refine IsAt ?_; first | (with_reducible first | refine T1 ?_ | refine T3 ?_ | refine T5 ?_ | refine T6 ?_) | ((with_reducible show At _ (PBlock _ _ (Exit.exit _)) _ _); refine At_block_hit ?_)) | (refine IsJ ?_; first | refine J_seq ?_ | refine J_region ?_ | refine J_block ?_ | refine J_skip ?_ | refine J_ret ?_ | refine J_exit ?_ | (refine IsCond ?_; first | refine J_cond_t rfl ?_ | refine J_cond_f rfl ?_ | refine J_cb rfl (fun _ => ?_) (fun _ => ?_))))
  refine At_retM rfl P2 (.agg rfl rfl rfl (by repeat (first | exact .head _ | refine .tail _ ?_)) rfl .nil) rfl (fun H hl => hl.pick (is := [5, 5, 5, 5, 5, 3, 3, 1]) rfl) ⟨w, bst, bf, rs, hww, hRO, ?_, ?_⟩
  · rw [← hnR]; rfl
  · rw [← hnR]; rfl
end Go.Proofs.Ytahfnbpbdnmggaa
/-
  Our own: regions: Len, At, First, Live, Total, Stays; besomlaw12.Stays.
-/
set_option linter.unusedVariables false
set_option linter.unusedSimpArgs false
namespace Go.Proofs.Ytahfnbpbdnmggaa
open Go.Sep
theorem RegLen_spec {w bst bf nR : Nat} : Does Try.prog 43 [regV w bst bf nR] [] (fun v l => v = .int .i64 nR ∧ l = []) := by
  refine Does.of tiok Try.func43 (by kernel_rfl) rfl Try.ntmps43 rfl ?_
  intro W fr
  repeat' (first | (refine IsO ?_; first | refine JO_nil ?_ | (refine IsLoad ?_; refine L1 rfl rfl rfl rfl ?_) | (refine IsBox ?_; refine N1 rfl rfl rfl rfl (fun _ => ?_)) | refine V1 rfl rfl rfl ?_) | (refine IsAt ?_; (with_reducible refine T1 ?_)) | (refine IsJ ?_; first | refine J_seq ?_ | refine J_region ?_ | refine J_ret ?_))
  exact At_ret rfl rfl (.tmp rfl .nil) rfl (is := []) rfl ⟨rfl, rfl⟩
theorem RegAt_spec {w bst bf nR : Nat} (i : Nat) (hi : i ≤ 1000000000) (h1 : 1 ≤ w) (h2 : w ≤ 65536) : Does Try.prog 81 [regV w bst bf nR, .int .i64 i] [] (fun v l => v = .int .i64 (i / w : Nat) ∧ l = []) := by
  refine Does.of tiok Try.func81 (by kernel_rfl) rfl Try.ntmps81 rfl ?_
  intro W fr
  repeat' (first | (refine IsO ?_; first | refine JO_nil ?_ | (refine IsBin ?_; refine B4 rfl rfl rfl rfl ?_) | (refine IsLoad ?_; refine L1 rfl rfl rfl rfl ?_) | (refine IsBox ?_; refine N1 rfl rfl rfl rfl (fun _ => ?_)) | refine V1 rfl rfl rfl ?_) | (refine IsAt ?_; (with_reducible refine T1 ?_)) | (refine IsJ ?_; first | refine J_seq ?_ | refine J_region ?_ | refine J_ret ?_))
  exact At_ret rfl rfl (.tmp rfl .nil) rfl (is := []) rfl ⟨by rw [Int.natCast_ediv]; rfl, rfl⟩
section ops
variable {w bst bf nR : Nat} {fs : List Int}
theorem RegFirst_spec (k : Nat) {x : Int} (hk : fs[k]? = some x) (hl : fs.length = nR + 1) (hn : nR ≤ 65536) : Does Try.prog 82 [regV w bst bf nR, .int .i64 k] [blk bf (intsV fs) 3] (fun v l => v = .int .i64 x ∧ l = [blk bf (intsV fs) 3]) := by
  have hkl := (List.getElem?_eq_some_iff.1 hk).1
  refine Does.of tiok Try.func82 (by kernel_rfl) rfl Try.ntmps82 rfl ?_
  intro W fr
  repeat' (first | (refine IsO ?_; first | refine JO_nil ?_ | (refine IsLoad ?_; refine L1 rfl rfl rfl rfl ?_) | (refine IsBox ?_; refine N1 rfl rfl rfl rfl (fun _ => ?_)) | refine V1 rfl rfl rfl ?_) | (refine IsAt ?_; (with_reducible refine T1 ?_)) | (refine IsJ ?_; first | refine J_seq ?_ | refine J_region ?_ | refine J_ret ?_))
  refine JO_val (OV_idx (off := k) rfl rfl rfl rfl (by omega) (by omega) (by simp)) rfl rfl ?_
  refine JO_q (OQ_load (v := .int .i64 x) rfl rfl (by repeat (first | exact .head _ | refine .tail _ ?_)) (by rw [List.getElem?_map, hk]; rfl)) rfl rfl ?_
  repeat' (first | (refine IsO ?_; first | refine JO_nil ?_ | (refine IsLoad ?_; refine L1 rfl rfl rfl rfl ?_) | (refine IsBox ?_; refine N1 rfl rfl rfl rfl (fun _ => ?_)) | refine V1 rfl rfl rfl ?_) | (refine IsAt ?_; (with_reducible refine T1 ?_)) | (refine IsJ ?_; first | refine J_seq ?_ | refine J_region ?_ | refine J_ret ?_))
  exact At_ret rfl rfl (.tmp rfl .nil) rfl (is := [1]) rfl ⟨rfl, rfl⟩
theorem RegTotal_spec {x : Int} (hk : fs[nR]? = some x) (hl : fs.length = nR + 1) (hn : nR ≤ 65536) : Does Try.prog 65 [regV w bst bf nR] [blk bf (intsV fs) 3] (fun v l => v = .int .i64 x ∧ l = [blk bf (intsV fs) 3]) := by
  refine Does.of tiok Try.func65 (by kernel_rfl) rfl Try.ntmps65 rfl ?_
  intro W fr
  repeat' (first | (refine IsO ?_; first | refine JO_nil ?_ | (refine IsBin ?_; refine B2 rfl rfl rfl rfl ?_) | (refine IsLoad ?_; refine L1 rfl rfl rfl rfl ?_) | (refine IsBox ?_; refine N1 rfl rfl rfl rfl (fun _ => ?_)) | refine V1 rfl rfl rfl ?_) | (refine IsAt ?_; (with_reducible refine T1 ?_)) | (refine IsJ ?_; first | refine J_seq ?_ | refine J_region ?_ | refine J_ret ?_))
  refine JO_val (OV_idx (off := nR) rfl rfl rfl rfl (by omega) (by omega) (by omega)) rfl rfl ?_
  refine JO_q (OQ_load (v := .int .i64 x) rfl rfl (by repeat (first | exact .head _ | refine .tail _ ?_)) (by rw [List.getElem?_map, hk]; rfl)) rfl rfl ?_
  repeat' (first | (refine IsO ?_; first | refine JO_nil ?_ | (refine IsBin ?_; refine B2 rfl rfl rfl rfl ?_) | (refine IsLoad ?_; refine L1 rfl rfl rfl rfl ?_) | (refine IsBox ?_; refine N1 rfl rfl rfl rfl (fun _ => ?_)) | refine V1 rfl rfl rfl ?_) | (refine IsAt ?_; (with_reducible refine T1 ?_)) | (refine IsJ ?_; first | refine J_seq ?_ | refine J_region ?_ | refine J_ret ?_))
  exact At_ret rfl rfl (.tmp rfl .nil) rfl (is := [1]) rfl ⟨rfl, rfl⟩
theorem RegLive_spec (k : Nat) {x y : Int} (hk : fs[k]? = some x) (hk1 : fs[k + 1]? = some y) (hl : fs.length = nR + 1) (hn : nR ≤ 65536) (hx : 0 ≤ x ∧ x ≤ 65536) (hy : 0 ≤ y ∧ y ≤ 65536) : Does Try.prog 88 [regV w bst bf nR, .int .i64 k] [blk bf (intsV fs) 3] (fun v l => v = .int .i64 (y - x) ∧ l = [blk bf (intsV fs) 3]) := by
  have hkl := (List.getElem?_eq_some_iff.1 hk1).1
  refine Does.of tiok Try.func88 (by kernel_rfl) rfl Try.ntmps88 rfl ?_
  intro W fr
  repeat' (first | (refine IsO ?_; first | refine JO_nil ?_ | (refine IsBox ?_; refine N1 rfl rfl rfl rfl (fun _ => ?_)) | refine V1 rfl rfl rfl ?_) | (refine IsAt ?_; (with_reducible refine T1 ?_)) | (refine IsJ ?_; first | refine J_seq ?_ | refine J_region ?_ | refine J_ret ?_))
  refine J_draw [0, 1, 0, 0, 0, 1, 0, 1, 0, 0, 1, 0, 0] (List.range 13) (by kernel_rfl) (by kernel_rfl) ?_
  repeat' (refine IsX ?_; first | (refine JX_nil ?_; refine At_np ?_) | (refine JX_op rfl ?_; refine XsO ?_; first | (refine XsBin ?_; first | refine XB1 rfl rfl rfl rfl rfl ?_ | refine XB2 rfl rfl rfl rfl rfl ?_) | (refine XsLoad ?_; refine XL1 rfl rfl rfl rfl rfl ?_) | refine XV1 rfl rfl rfl rfl ?_))
  refine JX_val rfl rfl (OV_idx (off := k + 1) rfl rfl rfl rfl (by omega) (by omega) (by omega)) rfl rfl ?_
  refine JX_q rfl rfl (OQ_load (v := .int .i64 y) rfl rfl (by repeat (first | exact .head _ | refine .tail _ ?_)) (by rw [List.getElem?_map, hk1]; rfl)) rfl rfl ?_
  repeat' (refine IsX ?_; first | (refine JX_nil ?_; refine At_np ?_) | (refine JX_op rfl ?_; refine XsO ?_; first | (refine XsBin ?_; first | refine XB1 rfl rfl rfl rfl rfl ?_ | refine XB2 rfl rfl rfl rfl rfl ?_) | (refine XsLoad ?_; refine XL1 rfl rfl rfl rfl rfl ?_) | refine XV1 rfl rfl rfl rfl ?_))
  refine JX_val rfl rfl (OV_idx (off := k) rfl rfl rfl rfl (by omega) (by omega) (by omega)) rfl rfl ?_
  refine JX_q rfl rfl (OQ_load (v := .int .i64 x) rfl rfl (by repeat (first | exact .head _ | refine .tail _ ?_)) (by rw [List.getElem?_map, hk]; rfl)) rfl rfl ?_
  repeat' (refine IsX ?_; first | (refine JX_nil ?_; refine At_np ?_) | (refine JX_op rfl ?_; refine XsO ?_; first | (refine XsBin ?_; first | refine XB1 rfl rfl rfl rfl rfl ?_ | refine XB2 rfl rfl rfl rfl rfl ?_) | (refine XsLoad ?_; refine XL1 rfl rfl rfl rfl rfl ?_) | refine XV1 rfl rfl rfl rfl ?_))
  repeat' (first | (refine IsO ?_; first | refine JO_nil ?_ | (refine IsBox ?_; refine N1 rfl rfl rfl rfl (fun _ => ?_)) | refine V1 rfl rfl rfl ?_) | (refine IsAt ?_; (with_reducible refine T1 ?_)) | (refine IsJ ?_; first | refine J_seq ?_ | refine J_region ?_ | refine J_ret ?_))
  exact At_ret rfl rfl (.tmp rfl .nil) rfl (is := [1]) rfl ⟨rfl, rfl⟩
theorem RegStays_spec {rs : List RG} (k : Nat) {r : RG} (hk : rs[k]? = some r) (hl : rs.length = nR) (hn : nR ≤ 65536) (hc : r.c.length ≤ 65536) : Does Try.prog 72 [regV w bst bf nR, .int .i64 k] [blk bst (rs.map cellG) 30, GW rs]
    (fun v l => ∃ a cap, (a = none → r.c.length = 0 ∧ cap = 0) ∧ v = .slice a r.c.length cap ∧ l = [row 3 1 a r.c.length cap (intsV r.c), blk bst (rs.map cellG) 30, GW rs]) := by
  have hkl := (List.getElem?_eq_some_iff.1 hk).1
  refine Does.of tiok Try.func72 (by kernel_rfl) rfl Try.ntmps72 rfl ?_
  intro W fr
  refine J_fact _ (fun w hs => GW_ok hs (by repeat (first | exact .head _ | refine .tail _ ?_))) ?_
  intro ok
  have hR := GW.reads (List.mem_of_getElem? hk) ok
  repeat' (first | (refine IsO ?_; first | refine JO_nil ?_ | (refine IsLoad ?_; refine L1 rfl rfl rfl rfl ?_) | (refine IsBox ?_; refine N1 rfl rfl rfl rfl (fun _ => ?_)) | refine V1 rfl rfl rfl ?_) | (refine IsAt ?_; (with_reducible refine T1 ?_)) | (refine IsJ ?_; first | refine J_seq ?_ | refine J_region ?_ | refine J_ret ?_))
  refine JO_val (OV_idx (off := k) rfl rfl rfl rfl (by omega) (by omega) (by simp)) rfl rfl ?_
  refine JO_q (OQ_load (v := cellG r) rfl rfl (by repeat (first | exact .head _ | refine .tail _ ?_)) (by rw [List.getElem?_map, hk]; rfl)) rfl rfl ?_
  refine JO_l (OL_call [2] rfl rfl rfl (CloneI_spec hR (plainL_ints _) (by omega)) rfl) rfl rfl ?_; rintro _ _ ⟨_, ⟨a', c', hn', rfl, rfl⟩, rfl⟩
  repeat' (first | (refine IsO ?_; first | refine JO_nil ?_ | (refine IsLoad ?_; refine L1 rfl rfl rfl rfl ?_) | (refine IsBox ?_; refine N1 rfl rfl rfl rfl (fun _ => ?_)) | refine V1 rfl rfl rfl ?_) | (refine IsAt ?_; (with_reducible refine T1 ?_)) | (refine IsJ ?_; first | refine J_seq ?_ | refine J_region ?_ | refine J_ret ?_))
  exact At_ret rfl rfl (.tmp rfl .nil) rfl (is := [0, 2, 0]) rfl ⟨a', c', hn', rfl, rfl⟩
end ops
end Go.Proofs.Ytahfnbpbdnmggaa
/-
  Our own: what is known of a heap's regions.
-/
set_option linter.unusedVariables false
set_option linter.unusedSimpArgs false
namespace Go.Proofs.Ytahfnbpbdnmggaa
open Go.Sep
structure RF (w nR : Nat) (L : List RO) (rs : List RG) (fs : List Int) : Prop where
  w1 : 1 ≤ w
  w2 : w ≤ 65536
  nb : nR ≤ 65536
  rl : rs.length = nR
  fl : fs.length = nR + 1
  fb : ∀ k, k ≤ nR → fs[k]? = some (szL (befR w k L) : Int)
  rc : ∀ k r, rs[k]? = some r → r.c = stI w k L
  tot : fs[nR]? = some (szL L : Int)
  lim : szL L ≤ 65536
  len : L.length ≤ 65536
theorem RF.of {words : Int} {n w T : Nat} {ws : List Int} {st : List Bool} {os : List RO} {ms : List Nat} {rs : List RG} (h : HT n T ws st) (hc : Ch ws 0 os T) (hw : w = widthR words) (hR : RegOk w T ms os rs) : RF w (numR w T) (lvs ms os) rs (firstI w (numR w T) (lvs ms os)) := by
  have hw1 : 1 ≤ w ∧ w ≤ 65536 := by rw [hw]; exact widthR_in
  have htn := h.tn
  have hnb := h.nb
  have hn1 := numR_le (T := T) hw1.1
  have hs := hc.sz
  have hl := hc.len
  have h2 := lvs_le (ms := ms) (os := os) (j := os.length)
  have h3 := lvs_len (ms := ms) (os := os) (j := os.length)
  rw [List.take_length] at h2 h3
  exact ⟨hw1.1, hw1.2, by omega, hR.rl, firstI_len, fun k hk => firstI_at hk, hR.rc, total_of ms hw1.1 hc, by omega, by omega⟩
theorem Ch.ge {ws : List Int} {T : Nat} : ∀ {l : List RO} {i : Nat}, Ch ws i l T → ∀ x ∈ l, i ≤ x.i
  | [], _, _, x, hx => by cases hx
  | y :: l, i, ⟨k1, k2, k3, k4, k5⟩, x, hx => by
    rcases List.mem_cons.1 hx with rfl | hx
    · omega
    · have := Ch.ge k5 x hx
      omega
theorem split_at {α : Type} {l : List α} {j : Nat} {o : α} (h : l[j]? = some o) : l = l.take j ++ o :: l.drop (j + 1) := by
  have hlt := (List.getElem?_eq_some_iff.1 h).1
  conv => lhs; rw [← List.take_append_drop j l]
  rw [List.drop_eq_getElem_cons hlt]
  rw [List.getElem?_eq_getElem hlt] at h
  injection h with h
  rw [h]
section facts
variable {w nR : Nat} {L : List RO} {rs : List RG} {fs : List Int}
theorem RF.clen (h : RF w nR L rs fs) {k : Nat} {r : RG} (hr : rs[k]? = some r) : r.c.length ≤ 65536 := by
  rw [h.rc k r hr]
  have := stI_len (w := w) (k := k) (L := L)
  have := h.len
  omega
theorem RF.bef (h : RF w nR L rs fs) (k : Nat) : szL (befR w k L) ≤ 65536 := Nat.le_trans szL_filter h.lim
theorem RF.live (h : RF w nR L rs fs) {k : Nat} (hk : k < nR) : fs[k + 1]? = some ((szL (inR w k L) : Int) + szL (befR w k L)) := by
  rw [h.fb (k + 1) hk, befR_next]
  rfl
theorem len_le_sz : ∀ {L : List RO}, L.length ≤ szL L
  | [] => Nat.le_refl _
  | o :: L => by
    have := len_le_sz (L := L)
    unfold szL at this ⊢
    simp only [List.length_cons, List.map_cons, List.sum_cons]
    omega
end facts
end Go.Proofs.Ytahfnbpbdnmggaa
/-
  Our own: forward: New, Top, Parts, stays, To, Word.
-/
set_option linter.unusedVariables false
set_option linter.unusedSimpArgs false
namespace Go.Proofs.Ytahfnbpbdnmggaa
open Go.Sep
/-- Where the object of a number goes. -/
def goI (ms : List Nat) (os : List RO) (j : Nat) : Nat := szL (lvs ms (os.take j))
/-- An object that stays begins at a place. -/
def LiveAt (ms : List Nat) (os : List RO) (x : Int) : Prop := ∃ (j : Nat) (o : RO), os[j]? = some o ∧ lvB ms o = true ∧ (o.i : Int) = x
theorem bef_all {w k : Nat} {L : List RO} (h : ∀ o ∈ L, o.i / w ≤ k) : szL L = szL (befR w k L) + szL (inR w k L) := by
  have h1 := befR_next (w := w) (k := k) (L := L)
  have h2 : befR w (k + 1) L = L := by
    unfold befR
    rw [List.filter_eq_self]
    intro o ho
    exact decide_eq_true (Nat.lt_succ_of_le (h o ho))
  rw [h2] at h1
  omega
/-- A region's objects: those ahead of one of them, it, those behind it. -/
theorem inR_split {w T j : Nat} {ws : List Int} {os : List RO} {o : RO} {ms : List Nat} (h : Ch ws 0 os T) (hj : os[j]? = some o) (hl : lvB ms o = true) :
    ∃ B, inR w (o.i / w) (lvs ms os) = inR w (o.i / w) (lvs ms (os.take j)) ++ o :: B ∧ befR w (o.i / w) (lvs ms os) = befR w (o.i / w) (lvs ms (os.take j)) ∧
      goI ms os j = szL (befR w (o.i / w) (lvs ms os)) + szL (inR w (o.i / w) (lvs ms (os.take j))) := by
  obtain ⟨h1, h2⟩ := h.at hj
  have e := split_at hj
  have hlt : ∀ x ∈ lvs ms (os.take j), x.i < o.i := by
    intro x hx
    obtain ⟨k, hk⟩ := List.getElem?_of_mem (List.mem_filter.1 hx).1
    have := h1.o_lt hk
    omega
  have hge : ∀ x ∈ lvs ms (os.drop (j + 1)), o.i ≤ x.i := by
    intro x hx
    have := Ch.ge h2.2.2.2.2 x (List.mem_filter.1 hx).1
    omega
  have eL : lvs ms os = lvs ms (os.take j) ++ o :: lvs ms (os.drop (j + 1)) := by
    conv => lhs; rw [e]
    unfold lvs
    rw [List.filter_append, List.filter_cons, if_pos hl]
  have eB : befR w (o.i / w) (lvs ms os) = befR w (o.i / w) (lvs ms (os.take j)) := by
    rw [eL]
    unfold befR
    rw [List.filter_append]
    have : (o :: lvs ms (os.drop (j + 1))).filter (fun x => decide (x.i / w < o.i / w)) = [] := by
      rw [List.filter_eq_nil_iff]
      intro x hx
      rcases List.mem_cons.1 hx with rfl | hx
      · simp
      · have := Nat.div_le_div_right (c := w) (hge x hx)
        simp
        omega
    rw [this, List.append_nil]
  refine ⟨inR w (o.i / w) (lvs ms (os.drop (j + 1))), ?_, eB, ?_⟩
  · conv => lhs; rw [eL]
    unfold inR
    rw [List.filter_append, List.filter_cons, if_pos (by simp)]
  · rw [eB]
    exact bef_all fun x hx => Nat.div_le_div_right (Nat.le_of_lt (hlt x hx))
theorem goI_le {T j : Nat} {ws : List Int} {os : List RO} {o : RO} (ms : List Nat) (h : Ch ws 0 os T) (hj : os[j]? = some o) : goI ms os j ≤ o.i := by
  have h1 := (h.at hj).1.sz
  have h2 : szL (lvs ms (os.take j)) ≤ szL (os.take j) := szL_filter
  unfold goI
  omega
/-- No object begins in another one. -/
theorem Ch.notLive {n T : Nat} {ws : List Int} {st : List Bool} {os : List RO} {ms : List Nat} {x : Int} (h : HT n T ws st) (hc : Ch ws 0 os T) (hno : ¬ LiveAt ms os x) : ¬ (0 ≤ x ∧ x < T ∧ st[x.toNat]? = some true) ∨ ∃ (j : Nat) (o : RO), os[j]? = some o ∧ (o.i : Int) = x ∧ lvB ms o = false := by
  by_cases hs : 0 ≤ x ∧ x < T ∧ st[x.toNat]? = some true
  · right
    by_cases hex : ∃ o ∈ os, (o.i : Int) = x
    · obtain ⟨o, ho, hx⟩ := hex
      obtain ⟨j, hj⟩ := List.getElem?_of_mem ho
      refine ⟨j, o, hj, hx, ?_⟩
      cases hl : lvB ms o with
      | false => rfl
      | true => exact absurd ⟨j, o, hj, hl, hx⟩ hno
    · exact absurd ⟨hs.1, hs.2.2⟩ (findR_none h hc fun o ho hx => hex ⟨o, ho, hx⟩)
  · exact .inl hs
theorem HeadO_ok {p bw bs n T j : Nat} {ws : List Int} {st : List Bool} {os : List RO} {o : RO} (h : HT n T ws st) (hc : Ch ws 0 os T) (hj : os[j]? = some o) : Does Try.prog 79 [ptr p 0, .int .i64 o.i] (heapL p bw bs n ws T st)
    (fun v l => v = .tuple #[headV o.k o.ws.length o.p, .int .i64 0] ∧ l = heapL p bw bs n ws T st) := by
  have hat := (hc.at hj).2
  have hol := hc.o_lt hj
  have hs := Ch.start h hc (h.zero.imp (fun e => e.symm) id) o (List.mem_of_getElem? hj)
  have hw := hat.2.2.1
  obtain ⟨u0, u1, u2, u3, u4⟩ := packI_un hat.2.1
  refine (heapHead_ok (p := p) (bw := bw) (bs := bs) o.i _ (h.w64 _ (List.mem_of_getElem? hw)) h.sl h.wl (by have := h.tn; omega) (by omega) hs hw).mono ?_
  rintro v l ⟨rfl, rfl⟩
  refine ⟨?_, rfl⟩
  rw [u1, if_pos rfl]
  unfold unV
  rw [u1, if_pos rfl, u2, u3, u4]
abbrev fwdV (p pm w bst bf nR : Nat) : List Value := [.int .i64 w, sl bst nR, sl bf (nR + 1), ptr p 0, ptr pm 0]
section ops
variable {pf p bw bs pm bm bst bf n T w nR : Nat} {ws : List Int} {st : List Bool} {os : List RO} {ms : List Nat} {rs : List RG} {fs : List Int}
abbrev fwdL (pf p bw bs pm bm bst bf n T w nR : Nat) (ws : List Int) (st : List Bool) (ms : List Nat) (rs : List RG) (fs : List Int) : List HP :=
  blk pf (fwdV p pm w bst bf nR) 106 :: (heapL p bw bs n ws T st ++ marksL pm bm n ms ++ regL bst bf rs fs)
theorem FwdNew_spec (words : Int) (h64 : In64 words) (h : HT n T ws st) (hc : Ch ws 0 os T) (hM : MI n ms) : Does Try.prog 37 [ptr p 0, ptr pm 0, .int .i64 words] (heapL p bw bs n ws T st ++ marksL pm bm n ms)
    (fun v l => ∃ pf w nR bst bf rs fs, w = widthR words ∧ RF w nR (lvs ms os) rs fs ∧ nR = numR w T ∧ v = ptr pf 0 ∧ l = fwdL pf p bw bs pm bm bst bf n T w nR ws st ms rs fs) := by
  refine Does.of tiok Try.func37 (by kernel_rfl) rfl Try.ntmps37 rfl ?_
  intro W fr
  repeat' (first | (refine IsO ?_; first | refine JO_nil ?_ | (refine IsBox ?_; refine N1 rfl rfl rfl rfl (fun _ => ?_)) | (refine IsBuild ?_; refine U1 rfl rfl rfl rfl rfl rfl ?_) | refine V1 rfl rfl rfl ?_) | (refine IsAt ?_; (with_reducible refine T1 ?_)) | (refine IsJ ?_; first | refine J_seq ?_ | refine J_region ?_ | refine J_ret ?_))
  refine JO_l (OL_call [0, 0, 0, 0, 0] rfl rfl rfl (RegOf_spec words h64 h hc hM) rfl) rfl rfl ?_; rintro _ _ ⟨_, ⟨w, bst, bf, rs, hw, hRO, rfl, rfl⟩, rfl⟩
  repeat' (first | (refine IsO ?_; first | refine JO_nil ?_ | (refine IsBox ?_; refine N1 rfl rfl rfl rfl (fun _ => ?_)) | (refine IsBuild ?_; refine U1 rfl rfl rfl rfl rfl rfl ?_) | refine V1 rfl rfl rfl ?_) | (refine IsAt ?_; (with_reducible refine T1 ?_)) | (refine IsJ ?_; first | refine J_seq ?_ | refine J_region ?_ | refine J_ret ?_))
  rename_i pf
  exact At_ret rfl rfl (.tmp rfl .nil) rfl (is := [0, 0, 0, 0, 0, 0, 0, 0, 0]) rfl ⟨pf, w, _, bst, bf, rs, _, hw, RF.of h hc hw hRO, rfl, rfl, rfl⟩
theorem FwdTop_spec (hF : RF w nR (lvs ms os) rs fs) : Does Try.prog 39 [ptr pf 0] (fwdL pf p bw bs pm bm bst bf n T w nR ws st ms rs fs) (fun v l => v = .int .i64 (szL (lvs ms os) : Nat) ∧ l = fwdL pf p bw bs pm bm bst bf n T w nR ws st ms rs fs) := by
  refine Does.of tiok Try.func39 (by kernel_rfl) rfl Try.ntmps39 rfl ?_
  intro W fr
  repeat' (first | (refine IsO ?_; first | refine JO_nil ?_ | (refine IsLoad ?_; refine L2 rfl rfl rfl rfl rfl ?_) | refine V1 rfl rfl rfl ?_) | (refine IsAt ?_; (with_reducible refine T1 ?_)) | (refine IsJ ?_; first | refine J_seq ?_ | refine J_region ?_ | refine J_ret ?_))
  refine JO_l (OL_call [8] rfl rfl rfl (RegTotal_spec hF.tot hF.fl hF.nb) rfl) rfl rfl ?_; rintro _ _ ⟨_, ⟨rfl, rfl⟩, rfl⟩
  repeat' (first | (refine IsO ?_; first | refine JO_nil ?_ | (refine IsLoad ?_; refine L2 rfl rfl rfl rfl rfl ?_) | refine V1 rfl rfl rfl ?_) | (refine IsAt ?_; (with_reducible refine T1 ?_)) | (refine IsJ ?_; first | refine J_seq ?_ | refine J_region ?_ | refine J_ret ?_))
  exact At_ret rfl rfl (.tmp rfl .nil) rfl (is := [1, 1, 1, 1, 1, 1, 1, 1, 0]) rfl ⟨rfl, rfl⟩
theorem stays_yes {j : Nat} {o : RO} (h : HT n T ws st) (hc : Ch ws 0 os T) (hM : MI n ms) (hj : os[j]? = some o) : Does Try.prog 80 [ptr pf 0, .int .i64 o.i] (fwdL pf p bw bs pm bm bst bf n T w nR ws st ms rs fs)
    (fun v l => v = .bool (lvB ms o) ∧ l = fwdL pf p bw bs pm bm bst bf n T w nR ws st ms rs fs) := by
  have hol := hc.o_lt hj
  have htn := h.tn
  refine Does.of tiok Try.func80 (by kernel_rfl) rfl Try.ntmps80 rfl ?_
  intro W fr
  repeat' (first | (refine IsO ?_; first | refine JO_nil ?_ | (refine IsG ?_; refine G1 rfl rfl ?_) | (refine IsMove ?_; first | refine M1 rfl rfl rfl ?_ | refine M3 rfl rfl rfl ?_ | refine M4 rfl rfl rfl ?_) | (refine IsLoad ?_; refine L1 rfl rfl rfl rfl ?_) | (refine IsStore ?_; refine S1 rfl rfl rfl rfl rfl rfl rfl (fun _ => ?_)) | (refine IsAlloc ?_; refine N2 rfl rfl rfl rfl (fun _ => ?_)) | refine V1 rfl rfl rfl ?_) | (refine IsAt ?_; (with_reducible refine T1 ?_)) | (refine IsJ ?_; first | refine J_seq ?_ | refine J_region ?_ | refine J_ret ?_))
  refine JO_l (OL_call [1, 1, 1] rfl rfl rfl (HeadO_ok h hc hj) rfl) rfl rfl ?_; rintro _ _ ⟨_, ⟨rfl, rfl⟩, rfl⟩
  unfold lvB
  by_cases h15 : o.k = 15
  · rw [decide_eq_false (not_not_intro h15)]
    repeat' (first | (refine IsO ?_; first | refine JO_nil ?_ | (refine IsG ?_; refine G1 rfl rfl ?_) | (refine IsMove ?_; first | refine M1 rfl rfl rfl ?_ | refine M3 rfl rfl rfl ?_ | refine M4 rfl rfl rfl ?_) | (refine IsLoad ?_; refine L1 rfl rfl rfl rfl ?_) | (refine IsStore ?_; refine S1 rfl rfl rfl rfl rfl rfl rfl (fun _ => ?_)) | (refine IsAlloc ?_; refine N2 rfl rfl rfl rfl (fun _ => ?_)) | refine V1 rfl rfl rfl ?_) | (refine IsAt ?_; (with_reducible refine T1 ?_)) | (refine IsJ ?_; first | refine J_seq ?_ | refine J_region ?_ | refine J_ret ?_))
    exact At_ret rfl rfl (.tmp rfl .nil) rfl (is := [4, 1, 1, 1, 1, 1, 1, 1, 1]) rfl ⟨rfl, rfl⟩
  · rw [decide_eq_true h15]
    repeat' (first | (refine IsO ?_; first | refine JO_nil ?_ | (refine IsG ?_; refine G1 rfl rfl ?_) | (refine IsMove ?_; first | refine M1 rfl rfl rfl ?_ | refine M3 rfl rfl rfl ?_ | refine M4 rfl rfl rfl ?_) | (refine IsLoad ?_; refine L1 rfl rfl rfl rfl ?_) | (refine IsStore ?_; refine S1 rfl rfl rfl rfl rfl rfl rfl (fun _ => ?_)) | (refine IsAlloc ?_; refine N2 rfl rfl rfl rfl (fun _ => ?_)) | refine V1 rfl rfl rfl ?_) | (refine IsAt ?_; (with_reducible refine T1 ?_)) | (refine IsJ ?_; first | refine J_seq ?_ | refine J_region ?_ | refine J_ret ?_))
    refine JO_l (OL_call [5, 5] rfl rfl rfl (Has_in o.i hM (by omega)) rfl) rfl rfl ?_; rintro _ _ ⟨_, ⟨rfl, rfl⟩, rfl⟩
    repeat' (first | (refine IsO ?_; first | refine JO_nil ?_ | (refine IsG ?_; refine G1 rfl rfl ?_) | (refine IsMove ?_; first | refine M1 rfl rfl rfl ?_ | refine M3 rfl rfl rfl ?_ | refine M4 rfl rfl rfl ?_) | (refine IsLoad ?_; refine L1 rfl rfl rfl rfl ?_) | (refine IsStore ?_; refine S1 rfl rfl rfl rfl rfl rfl rfl (fun _ => ?_)) | (refine IsAlloc ?_; refine N2 rfl rfl rfl rfl (fun _ => ?_)) | refine V1 rfl rfl rfl ?_) | (refine IsAt ?_; (with_reducible refine T1 ?_)) | (refine IsJ ?_; first | refine J_seq ?_ | refine J_region ?_ | refine J_ret ?_))
    exact At_ret rfl rfl (.tmp rfl .nil) rfl (is := [6, 3, 3, 3, 0, 0, 1, 1, 1]) rfl ⟨rfl, rfl⟩
theorem stays_no {x : Int} (h : HT n T ws st) (hx : ¬ (0 ≤ x ∧ x < T ∧ st[x.toNat]? = some true)) : Does Try.prog 80 [ptr pf 0, .int .i64 x] (fwdL pf p bw bs pm bm bst bf n T w nR ws st ms rs fs)
    (fun v l => v = .bool false ∧ l = fwdL pf p bw bs pm bm bst bf n T w nR ws st ms rs fs) := by
  refine Does.of tiok Try.func80 (by kernel_rfl) rfl Try.ntmps80 rfl ?_
  intro W fr
  repeat' (first | (refine IsO ?_; first | refine JO_nil ?_ | (refine IsG ?_; refine G1 rfl rfl ?_) | (refine IsMove ?_; refine M2 rfl rfl rfl ?_) | (refine IsLoad ?_; refine L1 rfl rfl rfl rfl ?_) | (refine IsStore ?_; refine S1 rfl rfl rfl rfl rfl rfl rfl (fun _ => ?_)) | (refine IsAlloc ?_; refine N2 rfl rfl rfl rfl (fun _ => ?_)) | refine V1 rfl rfl rfl ?_) | (refine IsAt ?_; (with_reducible refine T1 ?_)) | (refine IsJ ?_; first | refine J_seq ?_ | refine J_region ?_ | refine J_ret ?_))
  refine JO_l (OL_call [1, 1, 1] rfl rfl rfl (heapHead_no x h.sl (by have := h.tn; omega) hx) rfl) rfl rfl ?_; rintro _ _ ⟨_, ⟨rfl, rfl⟩, rfl⟩
  repeat' (first | (refine IsO ?_; first | refine JO_nil ?_ | (refine IsG ?_; refine G1 rfl rfl ?_) | (refine IsMove ?_; refine M2 rfl rfl rfl ?_) | (refine IsLoad ?_; refine L1 rfl rfl rfl rfl ?_) | (refine IsStore ?_; refine S1 rfl rfl rfl rfl rfl rfl rfl (fun _ => ?_)) | (refine IsAlloc ?_; refine N2 rfl rfl rfl rfl (fun _ => ?_)) | refine V1 rfl rfl rfl ?_) | (refine IsAt ?_; (with_reducible refine T1 ?_)) | (refine IsJ ?_; first | refine J_seq ?_ | refine J_region ?_ | refine J_ret ?_))
  exact At_ret rfl rfl (.tmp rfl .nil) rfl (is := [4, 1, 1, 1, 1, 1, 1, 1, 1]) rfl ⟨rfl, rfl⟩
set_option maxHeartbeats 4000000 in
theorem To_no {x : Int} (h : HT n T ws st) (hc : Ch ws 0 os T) (hM : MI n ms) (hx : ¬ LiveAt ms os x) : Does Try.prog 63 [ptr pf 0, .int .i64 x] (fwdL pf p bw bs pm bm bst bf n T w nR ws st ms rs fs)
    (fun v l => v = .tuple #[.int .i64 0, .int .i64 3] ∧ l = fwdL pf p bw bs pm bm bst bf n T w nR ws st ms rs fs) := by
  have hs : Does Try.prog 80 [ptr pf 0, .int .i64 x] (fwdL pf p bw bs pm bm bst bf n T w nR ws st ms rs fs)
    (fun v l => v = .bool false ∧ l = fwdL pf p bw bs pm bm bst bf n T w nR ws st ms rs fs) := by
    rcases hc.notLive h hx with e | ⟨j, o, hj, rfl, hl⟩
    · exact stays_no h e
    · have := stays_yes (pf := pf) (p := p) (bw := bw) (bs := bs) (pm := pm) (bm := bm) (bst := bst) (bf := bf) (w := w) (nR := nR) (rs := rs) (fs := fs) h hc hM hj
      rwa [hl] at this
  refine Does.of tiok Try.func63 (by kernel_rfl) rfl Try.ntmps63 rfl ?_
  intro W fr
  repeat' (first | (refine IsO ?_; first | refine JO_nil ?_ | refine V1 rfl rfl rfl ?_) | (refine IsAt ?_; (with_reducible first | refine T1 ?_ | refine T2 ?_)) | (refine IsJ ?_; first | refine J_seq ?_ | refine J_region ?_ | refine J_ret ?_ | (refine IsCond ?_; refine J_cond_t rfl ?_)))
  refine JO_l (OL_call [0, 0, 0, 0, 0, 0, 0, 0, 0] rfl rfl rfl (hs) rfl) rfl rfl ?_; rintro _ _ ⟨_, ⟨rfl, rfl⟩, rfl⟩
  repeat' (first | (refine IsO ?_; first | refine JO_nil ?_ | refine V1 rfl rfl rfl ?_) | (refine IsAt ?_; (with_reducible first | refine T1 ?_ | refine T2 ?_)) | (refine IsJ ?_; first | refine J_seq ?_ | refine J_region ?_ | refine J_ret ?_ | (refine IsCond ?_; refine J_cond_t rfl ?_)))
  exact At_ret rfl rfl (.tmp rfl (.tmp rfl .nil)) rfl (is := [0, 0, 0, 0, 0, 0, 0, 0, 0]) rfl ⟨rfl, rfl⟩
set_option maxHeartbeats 8000000 in
theorem To_yes {j : Nat} {o : RO} (h : HT n T ws st) (hc : Ch ws 0 os T) (hM : MI n ms) (hF : RF w nR (lvs ms os) rs fs) (hR : nR = numR w T) (hj : os[j]? = some o) (hl : lvB ms o = true) : Does Try.prog 63 [ptr pf 0, .int .i64 o.i] (fwdL pf p bw bs pm bm bst bf n T w nR ws st ms rs fs)
    (fun v l => v = .tuple #[.int .i64 (goI ms os j : Nat), .int .i64 0] ∧ l = fwdL pf p bw bs pm bm bst bf n T w nR ws st ms rs fs) := by
  have hol := hc.o_lt hj
  have htn := h.tn
  have hnb := h.nb
  have hgl := goI_le ms hc hj
  obtain ⟨B, hB, hb, hgo⟩ := inR_split (w := w) hc hj hl
  have hkn : o.i / w < nR := by rw [hR]; exact numR_lt hF.w1 (by omega)
  have hfb := hF.fb (o.i / w) (by omega)
  obtain ⟨r, hr⟩ : ∃ r, rs[o.i / w]? = some r := ⟨rs[o.i / w]'(by have := hF.rl; omega), List.getElem?_eq_getElem _⟩
  have hrc := hF.rc _ r hr
  have hrl := hF.clen hr
  unfold stI at hrc
  rw [hB] at hrc
  have hA : ∀ x ∈ inR w (o.i / w) (lvs ms (os.take j)), x.i < o.i ∧ x ∈ os := by
    intro x hx
    have hx := (List.mem_filter.1 (List.mem_filter.1 hx).1).1
    obtain ⟨k, hk⟩ := List.getElem?_of_mem hx
    have := (hc.at hj).1.o_lt hk
    exact ⟨by omega, List.mem_of_mem_take hx⟩
  generalize inR w (o.i / w) (lvs ms (os.take j)) = A at hA hrc hgo
  have hs := stays_yes (pf := pf) (p := p) (bw := bw) (bs := bs) (pm := pm) (bm := bm) (bst := bst) (bf := bf) (w := w) (nR := nR) (rs := rs) (fs := fs) h hc hM hj
  rw [hl] at hs
  have hAt : Does Try.prog 81 [regV w bst bf nR, .int .i64 o.i] [] _ := RegAt_spec o.i (by omega) hF.w1 hF.w2
  have hFi : Does Try.prog 82 [regV w bst bf nR, .int .i64 (o.i / w : Nat)] [blk bf (intsV fs) 3] _ := RegFirst_spec (o.i / w) hfb hF.fl hF.nb
  have hSi : Does Try.prog 72 [regV w bst bf nR, .int .i64 (o.i / w : Nat)] [blk bst (rs.map cellG) 30, GW rs] _ := RegStays_spec (o.i / w) hr hF.rl hF.nb hrl
  generalize o.i / w = k at *
  refine Does.of tiok Try.func63 (by kernel_rfl) rfl Try.ntmps63 rfl ?_
  intro W fr
  repeat' (first | (refine IsO ?_; first | refine JO_nil ?_ | (refine IsBin ?_; refine B1 rfl rfl rfl rfl ?_) | (refine IsLoad ?_; first | refine L1 rfl rfl rfl rfl ?_ | refine L2 rfl rfl rfl rfl rfl ?_) | (refine IsStore ?_; refine S1 rfl rfl rfl rfl rfl rfl rfl (fun _ => ?_)) | (refine IsAlloc ?_; refine N2 rfl rfl rfl rfl (fun _ => ?_)) | refine V1 rfl rfl rfl ?_) | (refine IsAt ?_; first | (with_reducible first | refine T1 ?_ | refine T3 ?_ | refine T5 ?_ | refine T6 ?_) | ((with_reducible show At _ (PBlock _ _ (Exit.exit _)) _ _); first | refine At_block_hit ?_ | refine At_block_miss rfl ?_)) | (refine IsJ ?_; first | refine J_seq ?_ | refine J_region ?_ | refine J_block ?_ | refine J_skip ?_ | refine J_ret ?_ | refine J_exit ?_ | (refine IsCond ?_; first | refine J_cond_f rfl ?_ | refine K1 rfl ?_ | refine K2 rfl ?_)))
  refine JO_l (OL_call [0, 0, 0, 0, 0, 0, 0, 0, 0] rfl rfl rfl (hs) rfl) rfl rfl ?_; rintro _ _ ⟨_, ⟨rfl, rfl⟩, rfl⟩
  repeat' (first | (refine IsO ?_; first | refine JO_nil ?_ | (refine IsBin ?_; refine B1 rfl rfl rfl rfl ?_) | (refine IsLoad ?_; first | refine L1 rfl rfl rfl rfl ?_ | refine L2 rfl rfl rfl rfl rfl ?_) | (refine IsStore ?_; refine S1 rfl rfl rfl rfl rfl rfl rfl (fun _ => ?_)) | (refine IsAlloc ?_; refine N2 rfl rfl rfl rfl (fun _ => ?_)) | refine V1 rfl rfl rfl ?_) | (refine IsAt ?_; first | (with_reducible first | refine T1 ?_ | refine T3 ?_ | refine T5 ?_ | refine T6 ?_) | ((with_reducible show At _ (PBlock _ _ (Exit.exit _)) _ _); first | refine At_block_hit ?_ | refine At_block_miss rfl ?_)) | (refine IsJ ?_; first | refine J_seq ?_ | refine J_region ?_ | refine J_block ?_ | refine J_skip ?_ | refine J_ret ?_ | refine J_exit ?_ | (refine IsCond ?_; first | refine J_cond_f rfl ?_ | refine K1 rfl ?_ | refine K2 rfl ?_)))
  refine JO_l (OL_call [] rfl rfl rfl (hAt) rfl) rfl rfl ?_; rintro _ _ ⟨_, ⟨rfl, rfl⟩, rfl⟩
  repeat' (first | (refine IsO ?_; first | refine JO_nil ?_ | (refine IsBin ?_; refine B1 rfl rfl rfl rfl ?_) | (refine IsLoad ?_; first | refine L1 rfl rfl rfl rfl ?_ | refine L2 rfl rfl rfl rfl rfl ?_) | (refine IsStore ?_; refine S1 rfl rfl rfl rfl rfl rfl rfl (fun _ => ?_)) | (refine IsAlloc ?_; refine N2 rfl rfl rfl rfl (fun _ => ?_)) | refine V1 rfl rfl rfl ?_) | (refine IsAt ?_; first | (with_reducible first | refine T1 ?_ | refine T3 ?_ | refine T5 ?_ | refine T6 ?_) | ((with_reducible show At _ (PBlock _ _ (Exit.exit _)) _ _); first | refine At_block_hit ?_ | refine At_block_miss rfl ?_)) | (refine IsJ ?_; first | refine J_seq ?_ | refine J_region ?_ | refine J_block ?_ | refine J_skip ?_ | refine J_ret ?_ | refine J_exit ?_ | (refine IsCond ?_; first | refine J_cond_f rfl ?_ | refine K1 rfl ?_ | refine K2 rfl ?_)))
  refine JO_l (OL_call [8] rfl rfl rfl (hFi) rfl) rfl rfl ?_; rintro _ _ ⟨_, ⟨rfl, rfl⟩, rfl⟩
  repeat' (first | (refine IsO ?_; first | refine JO_nil ?_ | (refine IsBin ?_; refine B1 rfl rfl rfl rfl ?_) | (refine IsLoad ?_; first | refine L1 rfl rfl rfl rfl ?_ | refine L2 rfl rfl rfl rfl rfl ?_) | (refine IsStore ?_; refine S1 rfl rfl rfl rfl rfl rfl rfl (fun _ => ?_)) | (refine IsAlloc ?_; refine N2 rfl rfl rfl rfl (fun _ => ?_)) | refine V1 rfl rfl rfl ?_) | (refine IsAt ?_; first | (with_reducible first | refine T1 ?_ | refine T3 ?_ | refine T5 ?_ | refine T6 ?_) | ((with_reducible show At _ (PBlock _ _ (Exit.exit _)) _ _); first | refine At_block_hit ?_ | refine At_block_miss rfl ?_)) | (refine IsJ ?_; first | refine J_seq ?_ | refine J_region ?_ | refine J_block ?_ | refine J_skip ?_ | refine J_ret ?_ | refine J_exit ?_ | (refine IsCond ?_; first | refine J_cond_f rfl ?_ | refine K1 rfl ?_ | refine K2 rfl ?_)))
  refine JO_l (OL_call [7, 7] rfl rfl rfl (hSi) rfl) rfl rfl ?_; rintro _ _ ⟨_, ⟨ra, rcap, hrn, rfl, rfl⟩, rfl⟩
  repeat' (first | (refine IsO ?_; first | refine JO_nil ?_ | (refine IsBin ?_; refine B1 rfl rfl rfl rfl ?_) | (refine IsLoad ?_; first | refine L1 rfl rfl rfl rfl ?_ | refine L2 rfl rfl rfl rfl rfl ?_) | (refine IsStore ?_; refine S1 rfl rfl rfl rfl rfl rfl rfl (fun _ => ?_)) | (refine IsAlloc ?_; refine N2 rfl rfl rfl rfl (fun _ => ?_)) | refine V1 rfl rfl rfl ?_) | (refine IsAt ?_; first | (with_reducible first | refine T1 ?_ | refine T3 ?_ | refine T5 ?_ | refine T6 ?_) | ((with_reducible show At _ (PBlock _ _ (Exit.exit _)) _ _); first | refine At_block_hit ?_ | refine At_block_miss rfl ?_)) | (refine IsJ ?_; first | refine J_seq ?_ | refine J_region ?_ | refine J_block ?_ | refine J_skip ?_ | refine J_ret ?_ | refine J_exit ?_ | (refine IsCond ?_; first | refine J_cond_f rfl ?_ | refine K1 rfl ?_ | refine K2 rfl ?_)))
  have hR1 : Reads (row 3 1 ra r.c.length rcap (intsV r.c)) 1 r.c.length ra rcap (intsV r.c) := Reads.row (by simp) hrn
  have hcl : r.c.length = A.length + 1 + B.length := by rw [hrc]; simp; omega
  have htk : ∀ q, szL (A.take q) ≤ szL A := fun q => by
    conv => rhs; rw [← List.take_append_drop q A]
    rw [szL_app]
    exact Nat.le_add_right _ _
  refine J_fact _ (fun w hs => hR1.some (by omega) hs (by repeat (first | exact .head _ | refine .tail _ ?_))) ?_
  rintro ⟨b, of, rfl⟩
  refine J_loop (α := Nat) (fun q => q ≤ A.length)
    (fun q => [(0, ptr pf 0), (1, .int .i64 o.i), (7, .int .i64 (szL (befR w k (lvs ms os)) + szL (A.take q) : Nat)), (33, .slice (some ⟨b, of, none⟩) r.c.length rcap), (34, .int .i64 r.c.length), (35, .int .i64 q)])
    (fun q => row 3 1 (some ⟨b, of, none⟩) r.c.length rcap (intsV r.c) :: fwdL pf p bw bs pm bm bst bf n T w nR ws st ms rs fs) (fun q => A.length - q) 0 (Nat.zero_le _) (by repeat (first | exact True.intro | refine And.intro rfl ?_)) (fun H hl => hl.pick (is := [0, 3, 3, 3, 3, 3, 3, 0, 0, 0]) rfl) ?_
  intro q hq
  have hq2 := htk q
  by_cases hqa : q < A.length
  · obtain ⟨x, hx⟩ : ∃ x, A[q]? = some x := ⟨A[q], List.getElem?_eq_getElem _⟩
    obtain ⟨hxi, hxm⟩ := hA x (List.mem_of_getElem? hx)
    obtain ⟨j', hj'⟩ := List.getElem?_of_mem hxm
    have hxl := hc.o_lt hj'
    have hcx : r.c[q]? = some (x.i : Int) := by
      rw [hrc, List.map_append, List.getElem?_append_left (by simpa using hqa), List.getElem?_map, hx]
      rfl
    have hsx : szL (A.take (q + 1)) = szL (A.take q) + (1 + x.ws.length) := by
      rw [take_next hx, szL_app]
      rfl
    have hq3 := htk (q + 1)
    repeat' (first | (refine IsO ?_; first | refine JO_nil ?_ | (refine IsBin ?_; refine B1 rfl rfl rfl rfl ?_) | (refine IsLoad ?_; first | refine L1 rfl rfl rfl rfl ?_ | refine L2 rfl rfl rfl rfl rfl ?_) | (refine IsStore ?_; refine S1 rfl rfl rfl rfl rfl rfl rfl (fun _ => ?_)) | (refine IsAlloc ?_; refine N2 rfl rfl rfl rfl (fun _ => ?_)) | refine V1 rfl rfl rfl ?_) | (refine IsAt ?_; first | (with_reducible first | refine T1 ?_ | refine T3 ?_ | refine T5 ?_ | refine T6 ?_) | ((with_reducible show At _ (PBlock _ _ (Exit.exit _)) _ _); first | refine At_block_hit ?_ | refine At_block_miss rfl ?_)) | (refine IsJ ?_; first | refine J_seq ?_ | refine J_region ?_ | refine J_block ?_ | refine J_skip ?_ | refine J_ret ?_ | refine J_exit ?_ | (refine IsCond ?_; first | refine J_cond_f rfl ?_ | refine K1 rfl ?_ | refine K2 rfl ?_)))
    refine JO_val (OV_idx (off := of + q) rfl rfl rfl rfl (by omega) (by omega) (by simp)) rfl rfl ?_
    refine JO_q (OQ_read (v := .int .i64 x.i) hR1 (by repeat (first | exact .head _ | refine .tail _ ?_)) rfl rfl (by omega) (by simp [intsV, hcx])) rfl rfl ?_
    repeat' (first | (refine IsO ?_; first | refine JO_nil ?_ | (refine IsBin ?_; refine B1 rfl rfl rfl rfl ?_) | (refine IsLoad ?_; first | refine L1 rfl rfl rfl rfl ?_ | refine L2 rfl rfl rfl rfl rfl ?_) | (refine IsStore ?_; refine S1 rfl rfl rfl rfl rfl rfl rfl (fun _ => ?_)) | (refine IsAlloc ?_; refine N2 rfl rfl rfl rfl (fun _ => ?_)) | refine V1 rfl rfl rfl ?_) | (refine IsAt ?_; first | (with_reducible first | refine T1 ?_ | refine T3 ?_ | refine T5 ?_ | refine T6 ?_) | ((with_reducible show At _ (PBlock _ _ (Exit.exit _)) _ _); first | refine At_block_hit ?_ | refine At_block_miss rfl ?_)) | (refine IsJ ?_; first | refine J_seq ?_ | refine J_region ?_ | refine J_block ?_ | refine J_skip ?_ | refine J_ret ?_ | refine J_exit ?_ | (refine IsCond ?_; first | refine J_cond_f rfl ?_ | refine K1 rfl ?_ | refine K2 rfl ?_)))
    refine JO_l (OL_call [2, 2, 2] rfl rfl rfl (HeadO_ok h hc hj') rfl) rfl rfl ?_; rintro _ _ ⟨_, ⟨rfl, rfl⟩, rfl⟩
    repeat' (first | (refine IsO ?_; first | refine JO_nil ?_ | (refine IsBin ?_; refine B1 rfl rfl rfl rfl ?_) | (refine IsLoad ?_; first | refine L1 rfl rfl rfl rfl ?_ | refine L2 rfl rfl rfl rfl rfl ?_) | (refine IsStore ?_; refine S1 rfl rfl rfl rfl rfl rfl rfl (fun _ => ?_)) | (refine IsAlloc ?_; refine N2 rfl rfl rfl rfl (fun _ => ?_)) | refine V1 rfl rfl rfl ?_) | (refine IsAt ?_; first | (with_reducible first | refine T1 ?_ | refine T3 ?_ | refine T5 ?_ | refine T6 ?_) | ((with_reducible show At _ (PBlock _ _ (Exit.exit _)) _ _); first | refine At_block_hit ?_ | refine At_block_miss rfl ?_)) | (refine IsJ ?_; first | refine J_seq ?_ | refine J_region ?_ | refine J_block ?_ | refine J_skip ?_ | refine J_ret ?_ | refine J_exit ?_ | (refine IsCond ?_; first | refine J_cond_f rfl ?_ | refine K1 rfl ?_ | refine K2 rfl ?_)))
    rw [show ((szL (befR w k (lvs ms os)) + szL (A.take q) : Nat) : Int) + (1 + (x.ws.length : Int)) = ((szL (befR w k (lvs ms os)) + szL (A.take (q + 1)) : Nat) : Int) by rw [hsx]; omega]
    exact At_round (q + 1) (by show A.length - (q + 1) < A.length - q; omega) (by show q + 1 ≤ A.length; omega) (by repeat (first | exact True.intro | refine And.intro rfl ?_)) (fun H hl => hl.pick (is := [4, 4, 1, 1, 1, 1, 1, 1, 1, 1]) rfl)
  · obtain rfl : q = A.length := by omega
    have hcx : r.c[A.length]? = some (o.i : Int) := by
      rw [hrc, List.map_append, List.getElem?_append_right (by simp)]
      simp
    rw [List.take_length, ← hgo]
    repeat' (first | (refine IsO ?_; first | refine JO_nil ?_ | (refine IsBin ?_; refine B1 rfl rfl rfl rfl ?_) | (refine IsLoad ?_; first | refine L1 rfl rfl rfl rfl ?_ | refine L2 rfl rfl rfl rfl rfl ?_) | (refine IsStore ?_; refine S1 rfl rfl rfl rfl rfl rfl rfl (fun _ => ?_)) | (refine IsAlloc ?_; refine N2 rfl rfl rfl rfl (fun _ => ?_)) | refine V1 rfl rfl rfl ?_) | (refine IsAt ?_; first | (with_reducible first | refine T1 ?_ | refine T3 ?_ | refine T5 ?_ | refine T6 ?_) | ((with_reducible show At _ (PBlock _ _ (Exit.exit _)) _ _); first | refine At_block_hit ?_ | refine At_block_miss rfl ?_)) | (refine IsJ ?_; first | refine J_seq ?_ | refine J_region ?_ | refine J_block ?_ | refine J_skip ?_ | refine J_ret ?_ | refine J_exit ?_ | (refine IsCond ?_; first | refine J_cond_f rfl ?_ | refine K1 rfl ?_ | refine K2 rfl ?_)))
    refine JO_val (OV_idx (off := of + A.length) rfl rfl rfl rfl (by omega) (by omega) (by simp)) rfl rfl ?_
    refine JO_q (OQ_read (v := .int .i64 o.i) hR1 (by repeat (first | exact .head _ | refine .tail _ ?_)) rfl rfl (by omega) (by simp [intsV, hcx])) rfl rfl ?_
    repeat' (first | (refine IsO ?_; first | refine JO_nil ?_ | (refine IsBin ?_; refine B1 rfl rfl rfl rfl ?_) | (refine IsLoad ?_; first | refine L1 rfl rfl rfl rfl ?_ | refine L2 rfl rfl rfl rfl rfl ?_) | (refine IsStore ?_; refine S1 rfl rfl rfl rfl rfl rfl rfl (fun _ => ?_)) | (refine IsAlloc ?_; refine N2 rfl rfl rfl rfl (fun _ => ?_)) | refine V1 rfl rfl rfl ?_) | (refine IsAt ?_; first | (with_reducible first | refine T1 ?_ | refine T3 ?_ | refine T5 ?_ | refine T6 ?_) | ((with_reducible show At _ (PBlock _ _ (Exit.exit _)) _ _); first | refine At_block_hit ?_ | refine At_block_miss rfl ?_)) | (refine IsJ ?_; first | refine J_seq ?_ | refine J_region ?_ | refine J_block ?_ | refine J_skip ?_ | refine J_ret ?_ | refine J_exit ?_ | (refine IsCond ?_; first | refine J_cond_f rfl ?_ | refine K1 rfl ?_ | refine K2 rfl ?_)))
    exact At_ret rfl rfl (.tmp rfl (.tmp rfl .nil)) rfl (is := [1, 1, 1, 1, 1, 1, 1, 1, 1]) rfl ⟨rfl, rfl⟩
theorem Word_zero : Does Try.prog 47 [ptr pf 0, .int .i64 0] (fwdL pf p bw bs pm bm bst bf n T w nR ws st ms rs fs)
    (fun v l => v = .tuple #[.int .i64 0, .int .i64 0] ∧ l = fwdL pf p bw bs pm bm bst bf n T w nR ws st ms rs fs) := by
  refine Does.of tiok Try.func47 (by kernel_rfl) rfl Try.ntmps47 rfl ?_
  intro W fr
  repeat' (first | (refine IsO ?_; first | refine JO_nil ?_ | refine V1 rfl rfl rfl ?_) | (refine IsAt ?_; (with_reducible first | refine T1 ?_ | refine T2 ?_)) | (refine IsJ ?_; first | refine J_seq ?_ | refine J_region ?_ | refine J_ret ?_ | (refine IsCond ?_; refine J_cond_t rfl ?_)))
  exact At_ret rfl rfl (.tmp rfl (.tmp rfl .nil)) rfl (is := [0, 0, 0, 0, 0, 0, 0, 0, 0]) rfl ⟨rfl, rfl⟩
theorem Word_yes {j : Nat} {o : RO} (h : HT n T ws st) (hc : Ch ws 0 os T) (hM : MI n ms) (hF : RF w nR (lvs ms os) rs fs) (hR : nR = numR w T) (hj : os[j]? = some o) (hl : lvB ms o = true) : Does Try.prog 47 [ptr pf 0, .int .i64 ((o.i : Int) + 1)] (fwdL pf p bw bs pm bm bst bf n T w nR ws st ms rs fs)
    (fun v l => v = .tuple #[.int .i64 ((goI ms os j : Int) + 1), .int .i64 0] ∧ l = fwdL pf p bw bs pm bm bst bf n T w nR ws st ms rs fs) := by
  have hol := hc.o_lt hj
  have htn := h.tn
  have hnb := h.nb
  have hgl := goI_le ms hc hj
  have hT := To_yes (pf := pf) (p := p) (bw := bw) (bs := bs) (pm := pm) (bm := bm) (bst := bst) (bf := bf) h hc hM hF hR hj hl
  generalize goI ms os j = gi at *
  refine Does.of tiok Try.func47 (by kernel_rfl) rfl Try.ntmps47 rfl ?_
  intro W fr
  repeat' (first | (refine IsO ?_; first | refine JO_nil ?_ | (refine IsBin ?_; first | refine B1 rfl rfl rfl rfl ?_ | refine B2 rfl rfl rfl rfl ?_) | refine V1 rfl rfl rfl ?_) | (refine IsAt ?_; (with_reducible refine T1 ?_)) | (refine IsJ ?_; first | refine J_seq ?_ | refine J_region ?_ | refine J_skip ?_ | refine J_ret ?_ | (refine IsCond ?_; refine J_cond_f rfl ?_)))
  rw [show (o.i : Int) + 1 - 1 = o.i by omega]
  refine JO_l (OL_call [0, 0, 0, 0, 0, 0, 0, 0, 0] rfl rfl rfl (hT) rfl) rfl rfl ?_; rintro _ _ ⟨_, ⟨rfl, rfl⟩, rfl⟩
  repeat' (first | (refine IsO ?_; first | refine JO_nil ?_ | (refine IsBin ?_; first | refine B1 rfl rfl rfl rfl ?_ | refine B2 rfl rfl rfl rfl ?_) | refine V1 rfl rfl rfl ?_) | (refine IsAt ?_; (with_reducible refine T1 ?_)) | (refine IsJ ?_; first | refine J_seq ?_ | refine J_region ?_ | refine J_skip ?_ | refine J_ret ?_ | (refine IsCond ?_; refine J_cond_f rfl ?_)))
  exact At_ret rfl rfl (.tmp rfl (.tmp rfl .nil)) rfl (is := [0, 0, 0, 0, 0, 0, 0, 0, 0]) rfl ⟨rfl, rfl⟩
theorem Word_no {x : Int} (h0 : ¬ x = 0) (h64 : In64 x) (h : HT n T ws st) (hc : Ch ws 0 os T) (hM : MI n ms) (hx : ¬ LiveAt ms os (x - 1)) : Does Try.prog 47 [ptr pf 0, .int .i64 x] (fwdL pf p bw bs pm bm bst bf n T w nR ws st ms rs fs)
    (fun v l => v = .tuple #[.int .i64 0, .int .i64 5] ∧ l = fwdL pf p bw bs pm bm bst bf n T w nR ws st ms rs fs) := by
  obtain ⟨h641, h642⟩ := h64
  have htn := h.tn
  have hnb := h.nb
  by_cases hm : x = -9223372036854775808
  · subst hm
    have hT := To_no (pf := pf) (p := p) (bw := bw) (bs := bs) (pm := pm) (bm := bm) (bst := bst) (bf := bf) (w := w) (nR := nR) (rs := rs) (fs := fs) (x := 9223372036854775807) h hc hM (fun ⟨j, o, hj, hl, hi⟩ => by
      have := hc.o_lt hj
      omega)
    refine Does.of tiok Try.func47 (by kernel_rfl) rfl Try.ntmps47 rfl ?_
    intro W fr
    repeat' (first | (refine IsO ?_; first | refine JO_nil ?_ | (refine IsBin ?_; refine B2 rfl rfl rfl rfl ?_) | refine V1 rfl rfl rfl ?_) | (refine IsAt ?_; (with_reducible first | refine T1 ?_ | refine T2 ?_)) | (refine IsJ ?_; first | refine J_seq ?_ | refine J_region ?_ | refine J_skip ?_ | refine J_ret ?_ | (refine IsCond ?_; first | refine J_cond_t rfl ?_ | refine J_cond_f rfl ?_ | refine K2 rfl ?_)))
    refine JO_l (OL_call [0, 0, 0, 0, 0, 0, 0, 0, 0] rfl rfl rfl (hT) rfl) rfl rfl ?_; rintro _ _ ⟨_, ⟨rfl, rfl⟩, rfl⟩
    repeat' (first | (refine IsO ?_; first | refine JO_nil ?_ | (refine IsBin ?_; refine B2 rfl rfl rfl rfl ?_) | refine V1 rfl rfl rfl ?_) | (refine IsAt ?_; (with_reducible first | refine T1 ?_ | refine T2 ?_)) | (refine IsJ ?_; first | refine J_seq ?_ | refine J_region ?_ | refine J_skip ?_ | refine J_ret ?_ | (refine IsCond ?_; first | refine J_cond_t rfl ?_ | refine J_cond_f rfl ?_ | refine K2 rfl ?_)))
    exact At_ret rfl rfl (.tmp rfl (.tmp rfl .nil)) rfl (is := [0, 0, 0, 0, 0, 0, 0, 0, 0]) rfl ⟨rfl, rfl⟩
  · have hT := To_no (pf := pf) (p := p) (bw := bw) (bs := bs) (pm := pm) (bm := bm) (bst := bst) (bf := bf) (w := w) (nR := nR) (rs := rs) (fs := fs) h hc hM hx
    refine Does.of tiok Try.func47 (by kernel_rfl) rfl Try.ntmps47 rfl ?_
    intro W fr
    repeat' (first | (refine IsO ?_; first | refine JO_nil ?_ | (refine IsBin ?_; refine B2 rfl rfl rfl rfl ?_) | refine V1 rfl rfl rfl ?_) | (refine IsAt ?_; (with_reducible first | refine T1 ?_ | refine T2 ?_)) | (refine IsJ ?_; first | refine J_seq ?_ | refine J_region ?_ | refine J_skip ?_ | refine J_ret ?_ | (refine IsCond ?_; first | refine J_cond_t rfl ?_ | refine J_cond_f rfl ?_ | refine K2 rfl ?_)))
    refine JO_l (OL_call [0, 0, 0, 0, 0, 0, 0, 0, 0] rfl rfl rfl (hT) rfl) rfl rfl ?_; rintro _ _ ⟨_, ⟨rfl, rfl⟩, rfl⟩
    repeat' (first | (refine IsO ?_; first | refine JO_nil ?_ | (refine IsBin ?_; refine B2 rfl rfl rfl rfl ?_) | refine V1 rfl rfl rfl ?_) | (refine IsAt ?_; (with_reducible first | refine T1 ?_ | refine T2 ?_)) | (refine IsJ ?_; first | refine J_seq ?_ | refine J_region ?_ | refine J_skip ?_ | refine J_ret ?_ | (refine IsCond ?_; first | refine J_cond_t rfl ?_ | refine J_cond_f rfl ?_ | refine K2 rfl ?_)))
    exact At_ret rfl rfl (.tmp rfl (.tmp rfl .nil)) rfl (is := [0, 0, 0, 0, 0, 0, 0, 0, 0]) rfl ⟨rfl, rfl⟩
end ops
end Go.Proofs.Ytahfnbpbdnmggaa
/-
  Our own: the document's answers for layer 14 (besomref14.To, Word, Right).
-/
set_option linter.unusedVariables false
set_option linter.unusedSimpArgs false
namespace Go.Proofs.Ytahfnbpbdnmggaa
open Go.Sep
abbrev stB (ms : List Nat) (os : List RO) : List Value := os.map fun o => Value.bool (lvB ms o)
theorem goI_succ {ms : List Nat} {os : List RO} {q : Nat} {o : RO} (h : os[q]? = some o) : goI ms os (q + 1) = goI ms os q + if lvB ms o then 1 + o.ws.length else 0 := by
  unfold goI
  rw [lvs_next h, szL_app]
  cases lvB ms o
  · rfl
  · show szL (lvs ms (os.take q)) + szL [o] = _
    simp [szL]
theorem goI_bd {ms : List Nat} {os : List RO} {q : Nat} : goI ms os q ≤ szL os := by
  unfold goI lvs
  refine Nat.le_trans szL_filter ?_
  have h := szL_app (A := os.take q) (B := os.drop q)
  rw [List.take_append_drop] at h
  omega
theorem Ch.apart {ws : List Int} {os : List RO} {T j j' : Nat} {o o' : RO} (h : Ch ws 0 os T) (hj : os[j]? = some o) (hj' : os[j']? = some o') (hlt : j < j') : o.i + 1 + o.ws.length ≤ o'.i := by
  have h1 := (h.at hj).2.2.2.2.2
  have h2 : (os.drop (j + 1))[j' - (j + 1)]? = some o' := by rw [List.getElem?_drop, show j + 1 + (j' - (j + 1)) = j' by omega]; exact hj'
  have hlt2 := (List.getElem?_eq_some_iff.1 h2).1
  have e : os.drop (j + 1) = (os.drop (j + 1)).take (j' - (j + 1)) ++ o' :: (os.drop (j + 1)).drop (j' - (j + 1) + 1) := by
    conv => lhs; rw [← List.take_append_drop (j' - (j + 1)) (os.drop (j + 1))]
    rw [List.drop_eq_getElem_cons hlt2]
    rw [List.getElem?_eq_getElem hlt2] at h2
    injection h2 with h2
    rw [h2]
  rw [e] at h1
  obtain ⟨m, k1, k2⟩ := Ch.app.1 h1
  have := k1.le
  have := k2.1
  omega
theorem Ch.one {ws : List Int} {os : List RO} {T j j' : Nat} {o o' : RO} (h : Ch ws 0 os T) (hj : os[j]? = some o) (hj' : os[j']? = some o') (he : o.i = o'.i) : j = j' := by
  rcases Nat.lt_trichotomy j j' with e | e | e
  · have := h.apart hj hj' e; omega
  · exact e
  · have := h.apart hj' hj e; omega
section ops
variable {a : Option Addr} {cap : Nat} {os : List RO} {ms : List Nat} {sa : Option Addr} {sc : Nat} {Rs : HP}
set_option maxHeartbeats 4000000 in
theorem To14_spec (size : Int) (hb : os.length ≤ 65536) (hz : szL os ≤ 65536) (hS : Reads Rs 1 os.length sa sc (stB ms os)) (j : Nat) (hj : j ≤ os.length) : Does Try.prog 46 [refV size a os.length cap, .slice sa os.length sc, .int .i64 j] (refL a cap os ++ [Rs])
    (fun v l => v = .int .i64 (goI ms os j : Nat) ∧ l = refL a cap os ++ [Rs]) := by
  refine Does.of tiok Try.func46 (by kernel_rfl) rfl Try.ntmps46 rfl ?_
  intro W fr
  refine J_rowzf P0 ?_
  rintro ⟨hl, hn, hc⟩
  have hR : Reads (objsZ a cap os) 5 os.length a cap (os.flatMap cellsO) := Reads.rowz hl hn
  repeat' (first | (refine IsO ?_; first | refine JO_nil ?_ | (refine IsBin ?_; refine B1 rfl rfl rfl rfl ?_) | (refine IsLoad ?_; refine L1 rfl rfl rfl rfl ?_) | (refine IsBox ?_; refine N1 rfl rfl rfl rfl (fun _ => ?_)) | refine V1 rfl rfl rfl ?_) | (refine IsAt ?_; first | (with_reducible first | refine T1 ?_ | refine T3 ?_ | refine T5 ?_ | refine T6 ?_) | ((with_reducible show At _ (PBlock _ _ (Exit.exit _)) _ _); refine At_block_hit ?_)) | (refine IsJ ?_; first | refine J_seq ?_ | refine J_region ?_ | refine J_block ?_ | refine J_skip ?_ | refine J_ret ?_ | refine J_exit ?_ | (refine IsCond ?_; first | refine J_cond_t rfl ?_ | refine J_cond_f rfl ?_ | refine J_cb rfl (fun _ => ?_) (fun _ => ?_))))
  rename_i bx
  refine J_loop (α := Nat) (fun q => q ≤ j)
    (fun q => [(1, .slice sa os.length sc), (2, .int .i64 j), (3, ptr bx 0), (7, .int .i64 (goI ms os q : Nat)), (8, .int .i64 q)])
    (fun q => blk bx [.int .i64 size, .slice a os.length cap] 33 :: refL a cap os ++ [Rs]) (fun q => j - q) 0 (Nat.zero_le _) (by repeat (first | exact True.intro | refine And.intro rfl ?_)) (fun H hl => hl) ?_
  intro q hq
  repeat' (first | (refine IsO ?_; first | refine JO_nil ?_ | (refine IsBin ?_; refine B1 rfl rfl rfl rfl ?_) | (refine IsLoad ?_; refine L1 rfl rfl rfl rfl ?_) | (refine IsBox ?_; refine N1 rfl rfl rfl rfl (fun _ => ?_)) | refine V1 rfl rfl rfl ?_) | (refine IsAt ?_; first | (with_reducible first | refine T1 ?_ | refine T3 ?_ | refine T5 ?_ | refine T6 ?_) | ((with_reducible show At _ (PBlock _ _ (Exit.exit _)) _ _); refine At_block_hit ?_)) | (refine IsJ ?_; first | refine J_seq ?_ | refine J_region ?_ | refine J_skip ?_ | refine J_ret ?_ | refine J_exit ?_ | (refine IsCond ?_; first | refine J_cond_t rfl ?_ | refine J_cond_f rfl ?_ | refine J_cb rfl (fun _ => ?_) (fun _ => ?_))))
  · rename_i hlt
    refine J_block ?_
    obtain ⟨o, ho⟩ : ∃ o, os[q]? = some o := ⟨os[q]'(by omega), List.getElem?_eq_getElem _⟩
    have hgs := goI_succ (ms := ms) ho
    have hgb := goI_bd (ms := ms) (os := os) (q := q + 1)
    repeat' (first | (refine IsO ?_; first | refine JO_nil ?_ | (refine IsBin ?_; refine B1 rfl rfl rfl rfl ?_) | (refine IsLoad ?_; refine L1 rfl rfl rfl rfl ?_) | (refine IsBox ?_; refine N1 rfl rfl rfl rfl (fun _ => ?_)) | refine V1 rfl rfl rfl ?_) | (refine IsAt ?_; first | (with_reducible first | refine T1 ?_ | refine T3 ?_ | refine T5 ?_ | refine T6 ?_) | ((with_reducible show At _ (PBlock _ _ (Exit.exit _)) _ _); refine At_block_hit ?_)) | (refine IsJ ?_; first | refine J_seq ?_ | refine J_region ?_ | refine J_block ?_ | refine J_skip ?_ | refine J_ret ?_ | refine J_exit ?_ | (refine IsCond ?_; first | refine J_cond_t rfl ?_ | refine J_cond_f rfl ?_ | refine J_cb rfl (fun _ => ?_) (fun _ => ?_))))
    refine JO_fact _ (fun w hs => hS.some (by omega) hs (by repeat (first | exact .head _ | refine .tail _ ?_))) ?_
    rintro ⟨b2, o2, rfl⟩
    refine JO_val (OV_idx (off := o2 + q) rfl rfl rfl rfl (by omega) (by omega) (by simp)) rfl rfl ?_
    refine JO_q (OQ_read (v := .bool (lvB ms o)) hS (by repeat (first | exact .head _ | refine .tail _ ?_)) rfl rfl (by omega) (by simp [ho])) rfl rfl ?_
    cases hl : lvB ms o with
    | true =>
      rw [hl, if_pos rfl] at hgs
      repeat' (first | (refine IsO ?_; first | refine JO_nil ?_ | (refine IsBin ?_; refine B1 rfl rfl rfl rfl ?_) | (refine IsLoad ?_; refine L1 rfl rfl rfl rfl ?_) | (refine IsBox ?_; refine N1 rfl rfl rfl rfl (fun _ => ?_)) | refine V1 rfl rfl rfl ?_) | (refine IsAt ?_; first | (with_reducible first | refine T1 ?_ | refine T3 ?_ | refine T5 ?_ | refine T6 ?_) | ((with_reducible show At _ (PBlock _ _ (Exit.exit _)) _ _); refine At_block_hit ?_)) | (refine IsJ ?_; first | refine J_seq ?_ | refine J_region ?_ | refine J_block ?_ | refine J_skip ?_ | refine J_ret ?_ | refine J_exit ?_ | (refine IsCond ?_; first | refine J_cond_t rfl ?_ | refine J_cond_f rfl ?_ | refine J_cb rfl (fun _ => ?_) (fun _ => ?_))))
      refine JO_fact _ (fun w hs => hR.some (by omega) hs (by repeat (first | exact .head _ | refine .tail _ ?_))) ?_
      rintro ⟨b, of, rfl⟩
      refine JO_val (OV_idx (off := of + q * 5) rfl rfl rfl rfl (by omega) (by omega) (by simp)) rfl rfl ?_
      repeat' (first | (refine IsO ?_; first | refine JO_nil ?_ | (refine IsBin ?_; refine B1 rfl rfl rfl rfl ?_) | (refine IsLoad ?_; refine L1 rfl rfl rfl rfl ?_) | (refine IsBox ?_; refine N1 rfl rfl rfl rfl (fun _ => ?_)) | refine V1 rfl rfl rfl ?_) | (refine IsAt ?_; first | (with_reducible first | refine T1 ?_ | refine T3 ?_ | refine T5 ?_ | refine T6 ?_) | ((with_reducible show At _ (PBlock _ _ (Exit.exit _)) _ _); refine At_block_hit ?_)) | (refine IsJ ?_; first | refine J_seq ?_ | refine J_region ?_ | refine J_block ?_ | refine J_skip ?_ | refine J_ret ?_ | refine J_exit ?_ | (refine IsCond ?_; first | refine J_cond_t rfl ?_ | refine J_cond_f rfl ?_ | refine J_cb rfl (fun _ => ?_) (fun _ => ?_))))
      refine JO_q (OQ_read (i := q * 5 + 2) (v := .int .i64 o.ws.length) hR (by repeat (first | exact .head _ | refine .tail _ ?_)) rfl rfl (by omega) (by rw [objs_get ho (by omega)]; rfl)) rfl rfl ?_
      repeat' (first | (refine IsO ?_; first | refine JO_nil ?_ | (refine IsBin ?_; refine B1 rfl rfl rfl rfl ?_) | (refine IsLoad ?_; refine L1 rfl rfl rfl rfl ?_) | (refine IsBox ?_; refine N1 rfl rfl rfl rfl (fun _ => ?_)) | refine V1 rfl rfl rfl ?_) | (refine IsAt ?_; first | (with_reducible first | refine T1 ?_ | refine T3 ?_ | refine T5 ?_ | refine T6 ?_) | ((with_reducible show At _ (PBlock _ _ (Exit.exit _)) _ _); refine At_block_hit ?_)) | (refine IsJ ?_; first | refine J_seq ?_ | refine J_region ?_ | refine J_block ?_ | refine J_skip ?_ | refine J_ret ?_ | refine J_exit ?_ | (refine IsCond ?_; first | refine J_cond_t rfl ?_ | refine J_cond_f rfl ?_ | refine J_cb rfl (fun _ => ?_) (fun _ => ?_))))
      rw [show ((goI ms os q : Nat) : Int) + 1 + (o.ws.length : Int) = ((goI ms os (q + 1) : Nat) : Int) by omega]
      exact At_round (q + 1) (by show j - (q + 1) < j - q; omega) (by show q + 1 ≤ j; omega) (by repeat (first | exact True.intro | refine And.intro rfl ?_)) (fun H hl => hl)
    | false =>
      rw [hl, if_neg (by decide)] at hgs
      repeat' (first | (refine IsO ?_; first | refine JO_nil ?_ | (refine IsBin ?_; refine B1 rfl rfl rfl rfl ?_) | (refine IsLoad ?_; refine L1 rfl rfl rfl rfl ?_) | (refine IsBox ?_; refine N1 rfl rfl rfl rfl (fun _ => ?_)) | refine V1 rfl rfl rfl ?_) | (refine IsAt ?_; first | (with_reducible first | refine T1 ?_ | refine T3 ?_ | refine T5 ?_ | refine T6 ?_) | ((with_reducible show At _ (PBlock _ _ (Exit.exit _)) _ _); refine At_block_hit ?_)) | (refine IsJ ?_; first | refine J_seq ?_ | refine J_region ?_ | refine J_block ?_ | refine J_skip ?_ | refine J_ret ?_ | refine J_exit ?_ | (refine IsCond ?_; first | refine J_cond_t rfl ?_ | refine J_cond_f rfl ?_ | refine J_cb rfl (fun _ => ?_) (fun _ => ?_))))
      rw [show goI ms os q = goI ms os (q + 1) by omega]
      exact At_round (q + 1) (by show j - (q + 1) < j - q; omega) (by show q + 1 ≤ j; omega) (by repeat (first | exact True.intro | refine And.intro rfl ?_)) (fun H hl => hl)
  · have hqe : q = j := by omega
    subst hqe
    repeat' (first | (refine IsO ?_; first | refine JO_nil ?_ | (refine IsBin ?_; refine B1 rfl rfl rfl rfl ?_) | (refine IsLoad ?_; refine L1 rfl rfl rfl rfl ?_) | (refine IsBox ?_; refine N1 rfl rfl rfl rfl (fun _ => ?_)) | refine V1 rfl rfl rfl ?_) | (refine IsAt ?_; first | (with_reducible first | refine T1 ?_ | refine T3 ?_ | refine T5 ?_ | refine T6 ?_) | ((with_reducible show At _ (PBlock _ _ (Exit.exit _)) _ _); refine At_block_hit ?_)) | (refine IsJ ?_; first | refine J_seq ?_ | refine J_region ?_ | refine J_block ?_ | refine J_skip ?_ | refine J_ret ?_ | refine J_exit ?_ | (refine IsCond ?_; first | refine J_cond_t rfl ?_ | refine J_cond_f rfl ?_ | refine J_cb rfl (fun _ => ?_) (fun _ => ?_))))
    exact At_ret rfl rfl (.tmp rfl .nil) rfl (is := [1, 1, 1]) rfl ⟨rfl, rfl⟩
set_option maxHeartbeats 4000000 in
theorem W14_zero (size : Int) : Does Try.prog 17 [refV size a os.length cap, .slice sa os.length sc, .int .i64 0] (refL a cap os ++ [Rs])
    (fun v l => v = .tuple #[.int .i64 0, .bool true] ∧ l = refL a cap os ++ [Rs]) := by
  refine Does.of tiok Try.func17 (by kernel_rfl) rfl Try.ntmps17 rfl ?_
  intro W fr
  repeat' (first | (refine IsO ?_; first | refine JO_nil ?_ | (refine IsBox ?_; refine N1 rfl rfl rfl rfl (fun _ => ?_)) | refine V1 rfl rfl rfl ?_) | (refine IsAt ?_; (with_reducible first | refine T1 ?_ | refine T2 ?_)) | (refine IsJ ?_; first | refine J_seq ?_ | refine J_region ?_ | refine J_ret ?_ | (refine IsCond ?_; refine J_cond_t rfl ?_)))
  exact At_ret rfl rfl (.tmp rfl (.tmp rfl .nil)) rfl (is := [1, 1, 1]) rfl ⟨rfl, rfl⟩
set_option maxHeartbeats 4000000 in
theorem W14_obj {n T j : Nat} {ws : List Int} {st : List Bool} {o : RO} (size : Int) (h : HT n T ws st) (hc : Ch ws 0 os T) (hz : szL os ≤ 65536) (hS : Reads Rs 1 os.length sa sc (stB ms os)) (hj : os[j]? = some o) :
    Does Try.prog 17 [refV size a os.length cap, .slice sa os.length sc, .int .i64 ((o.i : Int) + 1)] (refL a cap os ++ [Rs])
    (fun v l => v = .tuple #[.int .i64 (if lvB ms o then (goI ms os j : Int) + 1 else 0), .bool (lvB ms o)] ∧ l = refL a cap os ++ [Rs]) := by
  have hol := hc.o_lt hj
  have htn := h.tn
  have hnb := h.nb
  have hlen := hc.len
  have hjl := (List.getElem?_eq_some_iff.1 hj).1
  have hg := goI_bd (ms := ms) (os := os) (q := j)
  refine Does.of tiok Try.func17 (by kernel_rfl) rfl Try.ntmps17 rfl ?_
  intro W fr
  repeat' (first | (refine IsO ?_; first | refine JO_nil ?_ | (refine IsMove ?_; refine M2 rfl rfl rfl ?_) | (refine IsBin ?_; first | refine B1 rfl rfl rfl rfl ?_ | refine B2 rfl rfl rfl rfl ?_) | (refine IsLoad ?_; refine L2 rfl rfl rfl rfl rfl ?_) | (refine IsBox ?_; refine N1 rfl rfl rfl rfl (fun _ => ?_)) | refine V1 rfl rfl rfl ?_) | (refine IsAt ?_; (with_reducible first | refine T1 ?_ | refine T2 ?_)) | (refine IsJ ?_; first | refine J_seq ?_ | refine J_region ?_ | refine J_skip ?_ | refine J_ret ?_ | (refine IsCond ?_; first | refine J_cond_t rfl ?_ | refine J_cond_f rfl ?_)))
  rename_i bx
  rw [show (o.i : Int) + 1 - 1 = (o.i : Int) by omega]
  refine JO_l (OL_call [1, 1] rfl rfl rfl (Find_spec size (o.i : Int) (by omega)) rfl) rfl rfl ?_
  rintro _ _ ⟨_, ⟨r, hr, rfl, rfl⟩, rfl⟩
  have hrj : r = (j : Int) := by
    rcases hr with ⟨j', o', rfl, hj', he⟩ | ⟨rfl, hno⟩
    · have := Ch.one hc hj' hj (by omega)
      omega
    · exact absurd rfl (hno o (List.mem_of_getElem? hj))
  subst hrj
  repeat' (first | (refine IsO ?_; first | refine JO_nil ?_ | (refine IsMove ?_; refine M2 rfl rfl rfl ?_) | (refine IsBin ?_; first | refine B1 rfl rfl rfl rfl ?_ | refine B2 rfl rfl rfl rfl ?_) | (refine IsLoad ?_; refine L2 rfl rfl rfl rfl rfl ?_) | (refine IsBox ?_; refine N1 rfl rfl rfl rfl (fun _ => ?_)) | refine V1 rfl rfl rfl ?_) | (refine IsAt ?_; (with_reducible first | refine T1 ?_ | refine T2 ?_)) | (refine IsJ ?_; first | refine J_seq ?_ | refine J_region ?_ | refine J_skip ?_ | refine J_ret ?_ | (refine IsCond ?_; first | refine J_cond_t rfl ?_ | refine J_cond_f rfl ?_)))
  refine JO_fact _ (fun w hs => hS.some (by omega) hs (by repeat (first | exact .head _ | refine .tail _ ?_))) ?_
  rintro ⟨b2, o2, rfl⟩
  refine JO_val (OV_idx (off := o2 + j) rfl rfl rfl rfl (by omega) (by omega) (by simp)) rfl rfl ?_
  refine JO_q (OQ_read (v := .bool (lvB ms o)) hS (by repeat (first | exact .head _ | refine .tail _ ?_)) rfl rfl (by omega) (by simp [hj])) rfl rfl ?_
  cases hl : lvB ms o with
  | true =>
    repeat' (first | (refine IsO ?_; first | refine JO_nil ?_ | (refine IsMove ?_; refine M2 rfl rfl rfl ?_) | (refine IsBin ?_; first | refine B1 rfl rfl rfl rfl ?_ | refine B2 rfl rfl rfl rfl ?_) | (refine IsLoad ?_; refine L2 rfl rfl rfl rfl rfl ?_) | (refine IsBox ?_; refine N1 rfl rfl rfl rfl (fun _ => ?_)) | refine V1 rfl rfl rfl ?_) | (refine IsAt ?_; (with_reducible first | refine T1 ?_ | refine T2 ?_)) | (refine IsJ ?_; first | refine J_seq ?_ | refine J_region ?_ | refine J_skip ?_ | refine J_ret ?_ | (refine IsCond ?_; first | refine J_cond_t rfl ?_ | refine J_cond_f rfl ?_)))
    refine JO_l (OL_call [0, 0, 1] rfl rfl rfl (To14_spec size (by omega) hz hS j (by omega)) rfl) rfl rfl ?_
    rintro _ _ ⟨_, ⟨rfl, rfl⟩, rfl⟩
    repeat' (first | (refine IsO ?_; first | refine JO_nil ?_ | (refine IsMove ?_; refine M2 rfl rfl rfl ?_) | (refine IsBin ?_; first | refine B1 rfl rfl rfl rfl ?_ | refine B2 rfl rfl rfl rfl ?_) | (refine IsLoad ?_; refine L2 rfl rfl rfl rfl rfl ?_) | (refine IsBox ?_; refine N1 rfl rfl rfl rfl (fun _ => ?_)) | refine V1 rfl rfl rfl ?_) | (refine IsAt ?_; (with_reducible first | refine T1 ?_ | refine T2 ?_)) | (refine IsJ ?_; first | refine J_seq ?_ | refine J_region ?_ | refine J_skip ?_ | refine J_ret ?_ | (refine IsCond ?_; first | refine J_cond_t rfl ?_ | refine J_cond_f rfl ?_)))
    rw [show (1 : Int) + ((goI ms os j : Nat) : Int) = (goI ms os j : Int) + 1 by omega]
    exact At_ret rfl rfl (.tmp rfl (.tmp rfl .nil)) rfl (is := [0, 0, 0]) rfl ⟨rfl, rfl⟩
  | false =>
    repeat' (first | (refine IsO ?_; first | refine JO_nil ?_ | (refine IsMove ?_; refine M2 rfl rfl rfl ?_) | (refine IsBin ?_; first | refine B1 rfl rfl rfl rfl ?_ | refine B2 rfl rfl rfl rfl ?_) | (refine IsLoad ?_; refine L2 rfl rfl rfl rfl rfl ?_) | (refine IsBox ?_; refine N1 rfl rfl rfl rfl (fun _ => ?_)) | refine V1 rfl rfl rfl ?_) | (refine IsAt ?_; (with_reducible first | refine T1 ?_ | refine T2 ?_)) | (refine IsJ ?_; first | refine J_seq ?_ | refine J_region ?_ | refine J_skip ?_ | refine J_ret ?_ | (refine IsCond ?_; first | refine J_cond_t rfl ?_ | refine J_cond_f rfl ?_)))
    exact At_ret rfl rfl (.tmp rfl (.tmp rfl .nil)) rfl (is := [0, 0, 1]) rfl ⟨rfl, rfl⟩
def RightP (ms : List Nat) (os : List RO) : Prop := ∀ (j : Nat) (o : RO), os[j]? = some o → lvB ms o = true → ∀ (k : Nat) (w : Int), (k : Int) < o.p → o.ws[k]? = some w → w = 0 ∨ LiveAt ms os (w - 1)
def LeadP (os : List RO) : Prop := ∀ (j : Nat) (o : RO), os[j]? = some o → ∀ (k : Nat) (w : Int), (k : Int) < o.p → o.ws[k]? = some w → w = 0 ∨ ∃ (j' : Nat) (o' : RO), os[j']? = some o' ∧ w = (o'.i : Int) + 1
end ops
end Go.Proofs.Ytahfnbpbdnmggaa
/-
  Our own: heaps: Read.
-/
set_option linter.unusedVariables false
set_option linter.unusedSimpArgs false
namespace Go.Proofs.Ytahfnbpbdnmggaa
open Go.Sep
section ops
variable {p bw bs n T : Nat} {ws : List Int} {st : List Bool}
theorem Read_okT (i m : Nat) (w x : Int) (h : HT n T ws st) (hs : st[i]? = some true) (hw : ws[i]? = some w) (hg : wordB w = true) (hf : (m : Int) < unN w) (hle : i + 1 + (unN w).toNat ≤ T) (hx : ws[i + 1 + m]? = some x) : Does Try.prog 64 [ptr p 0, .int .i64 i, .int .i64 m] (heapL p bw bs n ws T st)
    (fun v l => v = .tuple #[.int .i64 x, .int .i64 0] ∧ l = heapL p bw bs n ws T st) := by
  have htn := h.tn
  have hnb := h.nb
  have hwl := h.wl
  refine Does.of tiok Try.func64 (by kernel_rfl) rfl Try.ntmps64 rfl ?_
  intro W fr
  repeat' (first | (refine IsO ?_; first | refine JO_nil ?_ | (refine IsBin ?_; refine B1 rfl rfl rfl rfl ?_) | (refine IsLoad ?_; refine L1 rfl rfl rfl rfl ?_) | (refine IsStore ?_; refine S1 rfl rfl rfl rfl rfl rfl rfl (fun _ => ?_)) | (refine IsAlloc ?_; refine N2 rfl rfl rfl rfl (fun _ => ?_)) | refine V1 rfl rfl rfl ?_) | (refine IsAt ?_; (with_reducible refine T1 ?_)) | (refine IsJ ?_; first | refine J_seq ?_ | refine J_region ?_ | refine J_skip ?_ | refine J_ret ?_ | (refine IsCond ?_; refine J_cond_f rfl ?_)))
  refine JO_l (OL_call [0, 0, 0] rfl rfl rfl (field_okT i w m h hs hw hg ⟨by omega, hf⟩) rfl) rfl rfl ?_; rintro _ _ ⟨_, ⟨rfl, rfl⟩, rfl⟩
  repeat' (first | (refine IsO ?_; first | refine JO_nil ?_ | (refine IsBin ?_; refine B1 rfl rfl rfl rfl ?_) | (refine IsLoad ?_; refine L1 rfl rfl rfl rfl ?_) | (refine IsStore ?_; refine S1 rfl rfl rfl rfl rfl rfl rfl (fun _ => ?_)) | (refine IsAlloc ?_; refine N2 rfl rfl rfl rfl (fun _ => ?_)) | refine V1 rfl rfl rfl ?_) | (refine IsAt ?_; (with_reducible refine T1 ?_)) | (refine IsJ ?_; first | refine J_seq ?_ | refine J_region ?_ | refine J_skip ?_ | refine J_ret ?_ | (refine IsCond ?_; refine J_cond_f rfl ?_)))
  refine JO_val (OV_idx (off := i + 1 + m) rfl rfl rfl rfl (by omega) (by omega) (by omega)) rfl rfl ?_
  refine JO_q (OQ_load (v := .int .i64 x) rfl rfl (by repeat (first | exact .head _ | refine .tail _ ?_)) (by simp [intsV, hx])) rfl rfl ?_
  repeat' (first | (refine IsO ?_; first | refine JO_nil ?_ | (refine IsBin ?_; refine B1 rfl rfl rfl rfl ?_) | (refine IsLoad ?_; refine L1 rfl rfl rfl rfl ?_) | (refine IsStore ?_; refine S1 rfl rfl rfl rfl rfl rfl rfl (fun _ => ?_)) | (refine IsAlloc ?_; refine N2 rfl rfl rfl rfl (fun _ => ?_)) | refine V1 rfl rfl rfl ?_) | (refine IsAt ?_; (with_reducible refine T1 ?_)) | (refine IsJ ?_; first | refine J_seq ?_ | refine J_region ?_ | refine J_skip ?_ | refine J_ret ?_ | (refine IsCond ?_; refine J_cond_f rfl ?_)))
  exact At_ret rfl rfl (.tmp rfl (.tmp rfl .nil)) rfl (is := [1, 1, 1]) rfl ⟨rfl, rfl⟩
end ops
end Go.Proofs.Ytahfnbpbdnmggaa
/-
  Our own, over any program: the scope of labels, where nothing jumps to one.
-/
namespace Go.Sep
open Go.RowKit
/-- What holds behind a scope: no jump to a label leaves it. -/
def PScope (Q : Post) : Post := fun e a w => match e with
  | .normal => Q .normal a w
  | .exit id => Q (.exit id) a w
  | .goto _ => False
  | .ret => Q .ret a w
  | .panic c => Q (.panic c) a w
  | .outgrown => Q .outgrown a w
theorem wpIn_scope' {F : Fence} {n : Nat} {P : Program} {Q : Post} {a : Act} {w : World} {c : Code} (h : c.wpIn F n P (PScope Q) a w) : (Code.scope c).wpIn F n P Q a w := by
  intro b k cs hro hb hr
  have h0 : (lone (b.atR a (.code (.scope c) :: k)) cs w).fenced P F := fenced_calm hb hr rfl
  have s1 : step P (lone (b.atR a (.code (.scope c) :: k)) cs w) = .next (lone (b.atR a (.code c :: .inScope c :: k)) cs w) := rfl
  obtain ⟨e, a₁, w₁, hq, harr⟩ := h b (.inScope c :: k) cs hro hb hr
  have hx : ∀ id, exitTo id (.inScope c :: k) = exitTo id k := fun id => by simp [exitTo]
  cases e with
  | normal => exact ⟨.normal, a₁, w₁, hq, .head h0 s1 (StepsIn.trans harr (.one (fenced_calm hb hr rfl) rfl))⟩
  | exit id => exact ⟨.exit id, a₁, w₁, hq, fun k' hk => .head h0 s1 (harr.1 k' (by rw [hx]; exact hk)), fun hr' hk => let ⟨k₁, h1, h2⟩ := harr.2 hr' (by rw [hx]; exact hk); ⟨k₁, h1, .head h0 s1 h2⟩⟩
  | goto l => exact hq.elim
  | ret => exact ⟨_, a₁, w₁, hq, .of_steps (.one h0 s1) harr⟩
  | panic ch => exact ⟨_, a₁, w₁, hq, .of_steps (.one h0 s1) harr⟩
  | outgrown => exact ⟨_, a₁, w₁, hq, .of_steps (.one h0 s1) harr⟩
theorem J_scope {C : Ctx} {Q : Post} {g : Regs} {l : List HP} {c : Code} (h : J C c (PScope Q) g l) : J C (.scope c) Q g l := ⟨fun a w hf hs => wpIn_scope' (h.out a w hf hs)⟩
theorem At_scope_ret {C : Ctx} {Q : Post} {g : Regs} {l : List HP} (h : At C (Q .ret) g l) : At C (PScope Q .ret) g l := h
end Go.Sep
