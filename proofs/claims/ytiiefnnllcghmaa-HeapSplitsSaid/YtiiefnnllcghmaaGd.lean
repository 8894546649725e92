/-
  Our own: the document's heaps (besomref01): Of.
-/
import Derived.Test.YtiiefnnllcghmaaJq
import Derived.Test.YtiiefnnllcghmaaGc
set_option linter.unusedVariables false
set_option linter.unusedSimpArgs false
namespace Go.Proofs.Ytiiefnnllcghmaa
open Go.Sep
theorem Ch.snoc {ws : List Int} {os : List RO} {i T : Nat} {o : RO} (h : Ch ws i os T) (h1 : o.i = T) (h2 : goodB o.k o.ws.length o.p = true) (h3 : ws[T]? = some (packI o.k o.ws.length o.p)) (h4 : ∀ j : Nat, j < o.ws.length → ws[T + 1 + j]? = o.ws[j]?) : Ch ws i (os ++ [o]) (T + 1 + o.ws.length) :=
  Ch.app.2 ⟨T, h, h1, h2, h3, h4, rfl⟩
theorem refUnpack_good {w : Int} (hw : In64 w) (hg : wordB w = true) : Does Try.prog 19 [.int .i64 w] [] (fun v l => v = .tuple #[headV (unK w) (unN w) (unP w), .bool true] ∧ l = []) := by
  have h := refUnpack_spec w hw
  unfold unV at h
  rw [hg] at h
  exact h
theorem refUnpack_bad {w : Int} (hw : In64 w) (hg : wordB w = false) : Does Try.prog 19 [.int .i64 w] [] (fun v l => v = .tuple #[headV 0 0 0, .bool false] ∧ l = []) := by
  have h := refUnpack_spec w hw
  unfold unV at h
  rw [hg] at h
  exact h
theorem RW_nil {l : List HP} {H : PH} (h : Stars l H) : Stars (RW [] :: l) H := Stars.shut (ps := []) h
theorem map_addn {b o m cap k : Nat} (h : m ≤ cap) (hk : k ≤ m) : ∃ o', (if cap = k then some (⟨b, o, none⟩ : Addr) else (some (⟨b, o, none⟩ : Addr)).map (·.add (k * 1))) = some ⟨b, o', none⟩ ∧ (o' = o + k ∨ m = k) := by
  by_cases e : cap = k
  · exact ⟨o, by rw [if_pos e], .inr (by omega)⟩
  · refine ⟨o + k, ?_, .inl rfl⟩
    rw [if_neg e, Option.map_some, addr_add]
    congr 2; omega
section ops
variable {R : HP} {a : Option Addr} {cap : Nat}
theorem refOf_bad {ws : List Int} (hR : Reads R 1 ws.length a cap (intsV ws)) (T : Int) (h : ¬ (1 ≤ ws.length ∧ ws.length ≤ 65536 ∧ 0 ≤ T ∧ T ≤ ws.length)) : Does Try.prog 31 [.slice a ws.length cap, .int .i64 T] [R] (fun v l => v = .tuple #[refV 0 none 0 0, .int .i64 1] ∧ l = [R]) := by
  refine Does.of tiok Try.func31 (by kernel_rfl) rfl Try.ntmps31 rfl ?_
  intro W fr
  repeat' (first | (refine IsO ?_; first | refine JO_nil ?_ | (refine IsG ?_; first | refine G1 rfl rfl ?_ | refine G2 rfl ?_) | (refine IsMove ?_; first | refine M1 rfl rfl rfl ?_ | refine M2 rfl rfl rfl ?_ | refine M3 rfl rfl rfl ?_ | refine M4 rfl rfl rfl ?_ | refine M5 rfl rfl rfl (fun _ => ?_) (fun _ => ?_) | refine M6 rfl rfl rfl (fun _ => ?_) (fun _ => ?_)) | (refine IsBin ?_; first | refine B1 rfl rfl rfl rfl ?_ | refine B2 rfl rfl rfl rfl ?_ | refine B3 rfl rfl rfl rfl ?_ | refine B4 rfl rfl rfl rfl ?_ | refine B5 rfl rfl rfl rfl ?_ | refine B6 rfl rfl rfl rfl ?_ | refine B7 rfl rfl rfl rfl rfl ?_ | refine B8 rfl rfl rfl rfl rfl ?_ | refine B9 rfl rfl rfl rfl rfl rfl rfl ?_ | refine BA rfl rfl rfl rfl rfl rfl rfl ?_) | (refine IsConv ?_; refine C1 rfl rfl rfl rfl rfl ?_) | (refine IsLoad ?_; first | refine L1 rfl rfl rfl rfl ?_ | refine L2 rfl rfl rfl rfl rfl ?_) | (refine IsStore ?_; refine S1 rfl rfl rfl rfl rfl rfl rfl (fun _ => ?_)) | (refine IsBox ?_; refine N1 rfl rfl rfl rfl (fun _ => ?_)) | (refine IsAlloc ?_; refine N2 rfl rfl rfl rfl (fun _ => ?_)) | (refine IsBuild ?_; refine U1 rfl rfl rfl rfl rfl rfl ?_) | refine V1 rfl rfl rfl ?_) | (refine IsAt ?_; first | (with_reducible first | refine T1 ?_ | refine T2 ?_ | refine T3 ?_ | refine T4 ?_ | refine T5 ?_ | refine T6 ?_ | refine T7 ?_ | refine T8 ?_ | refine T9 ?_ | refine TA ?_ | refine TB ?_ | refine TC ?_) | ((with_reducible show At _ (PBlock _ _ (Exit.exit _)) _ _); first | refine At_block_hit ?_ | refine At_block_miss rfl ?_)) | (refine IsJ ?_; first | refine J_seq ?_ | refine J_region ?_ | refine J_block ?_ | refine J_skip ?_ | refine J_ret ?_ | refine J_exit ?_ | (refine IsCond ?_; first | refine J_cond_t rfl ?_ | refine J_cond_f rfl ?_ | refine K1 rfl ?_ | refine K2 rfl ?_ | refine K3 rfl ?_ | refine K4 rfl ?_ | refine J_cb rfl (fun _ => ?_) (fun _ => ?_) | refine J_nb rfl (fun _ => ?_) (fun _ => ?_))))
  all_goals first | exact absurd (by omega) h | exact At_ret rfl rfl (.agg rfl rfl rfl (by repeat (first | exact .head _ | refine .tail _ ?_)) rfl (.tmp rfl .nil)) rfl (is := [1]) rfl ⟨rfl, rfl⟩
set_option maxHeartbeats 8000000 in
theorem refOf_spec {ws : List Int} (hR : Reads R 1 ws.length a cap (intsV ws)) (hz : ∀ w ∈ ws, In64 w) (T : Nat) (h1 : 1 ≤ ws.length) (h2 : ws.length ≤ 65536) (hT : T ≤ ws.length) (hcap : ws.length ≤ cap) : Does Try.prog 31 [.slice a ws.length cap, .int .i64 T] [R]
    (fun v l => match ofF ws T (T + 1) 0 (List.replicate ws.length false) with
      | some st => ∃ a' cap' os, Ch ws 0 os T ∧ v = .tuple #[refV ws.length a' os.length cap', .int .i64 0] ∧ l = refL a' cap' os ++ [R]
      | none => v = .tuple #[refV 0 none 0 0, .int .i64 2] ∧ l = [R]) := by
  obtain ⟨res, hres⟩ : ∃ res, res = ofF ws T (T + 1) 0 (List.replicate ws.length false) := ⟨_, rfl⟩
  rw [← hres]
  refine Does.of tiok Try.func31 (by kernel_rfl) rfl Try.ntmps31 rfl ?_
  intro W fr
  repeat' (first | (refine IsO ?_; first | refine JO_nil ?_ | (refine IsG ?_; first | refine G1 rfl rfl ?_ | refine G2 rfl ?_) | (refine IsMove ?_; first | refine M1 rfl rfl rfl ?_ | refine M2 rfl rfl rfl ?_ | refine M3 rfl rfl rfl ?_ | refine M4 rfl rfl rfl ?_ | refine M5 rfl rfl rfl (fun _ => ?_) (fun _ => ?_) | refine M6 rfl rfl rfl (fun _ => ?_) (fun _ => ?_)) | (refine IsBin ?_; first | refine B1 rfl rfl rfl rfl ?_ | refine B2 rfl rfl rfl rfl ?_ | refine B3 rfl rfl rfl rfl ?_ | refine B4 rfl rfl rfl rfl ?_ | refine B5 rfl rfl rfl rfl ?_ | refine B6 rfl rfl rfl rfl ?_ | refine B7 rfl rfl rfl rfl rfl ?_ | refine B8 rfl rfl rfl rfl rfl ?_ | refine B9 rfl rfl rfl rfl rfl rfl rfl ?_ | refine BA rfl rfl rfl rfl rfl rfl rfl ?_) | (refine IsConv ?_; refine C1 rfl rfl rfl rfl rfl ?_) | (refine IsLoad ?_; first | refine L1 rfl rfl rfl rfl ?_ | refine L2 rfl rfl rfl rfl rfl ?_) | (refine IsStore ?_; refine S1 rfl rfl rfl rfl rfl rfl rfl (fun _ => ?_)) | (refine IsBox ?_; refine N1 rfl rfl rfl rfl (fun _ => ?_)) | (refine IsAlloc ?_; refine N2 rfl rfl rfl rfl (fun _ => ?_)) | (refine IsBuild ?_; refine U1 rfl rfl rfl rfl rfl rfl ?_) | refine V1 rfl rfl rfl ?_) | (refine IsAt ?_; first | (with_reducible first | refine T1 ?_ | refine T2 ?_ | refine T3 ?_ | refine T4 ?_ | refine T5 ?_ | refine T6 ?_ | refine T7 ?_ | refine T8 ?_ | refine T9 ?_ | refine TA ?_ | refine TB ?_ | refine TC ?_) | ((with_reducible show At _ (PBlock _ _ (Exit.exit _)) _ _); first | refine At_block_hit ?_ | refine At_block_miss rfl ?_)) | (refine IsJ ?_; first | refine J_seq ?_ | refine J_region ?_ | refine J_block ?_ | refine J_skip ?_ | refine J_ret ?_ | refine J_exit ?_ | (refine IsCond ?_; first | refine J_cond_t rfl ?_ | refine J_cond_f rfl ?_ | refine K1 rfl ?_ | refine K2 rfl ?_ | refine K3 rfl ?_ | refine K4 rfl ?_ | refine J_cb rfl (fun _ => ?_) (fun _ => ?_) | refine J_nb rfl (fun _ => ?_) (fun _ => ?_))))
  rename_i b4 b6 _
  refine J_loop (α := Nat × List Bool × Nat × List RO × Option Addr × Nat) (fun x => x.1 ≤ T ∧ T < x.1 + x.2.2.1 ∧ res = ofF ws T x.2.2.1 x.1 x.2.1 ∧ Ch ws 0 x.2.2.2.1 x.1)
    (fun x => [(0, .slice a ws.length cap), (1, .int .i64 T), (4, ptr b4 0), (5, .int .i64 0), (6, ptr b6 0), (7, .int .i64 x.1)])
    (fun x => [blk b4 [.int .i64 0, .slice none 0 0] 54, blk b6 [.int .i64 ws.length, .slice x.2.2.2.2.1 x.2.2.2.1.length x.2.2.2.2.2] 54, objsZ x.2.2.2.2.1 x.2.2.2.2.2 x.2.2.2.1, RW x.2.2.2.1, R]) (fun x => T - x.1) (0, List.replicate ws.length false, T + 1, [], none, 0) ⟨Nat.zero_le _, by simp, hres, rfl⟩ (by repeat (first | exact True.intro | refine And.intro rfl ?_)) ?_ ?_
  · intro H hl
    exact (rowz_nil (T := 72) (sz := 5) (a := none) (RW_nil hl)).pick (is := [3, 2, 0, 0, 0]) rfl
  rintro ⟨i, st, f, os, oa, oc⟩ ⟨hi, hf, hof, hc⟩
  dsimp only at hi hf hof hc ⊢
  have hcl := hc.len
  repeat' (first | (refine IsO ?_; first | refine JO_nil ?_ | (refine IsG ?_; first | refine G1 rfl rfl ?_ | refine G2 rfl ?_) | (refine IsMove ?_; first | refine M1 rfl rfl rfl ?_ | refine M2 rfl rfl rfl ?_ | refine M3 rfl rfl rfl ?_ | refine M4 rfl rfl rfl ?_ | refine M5 rfl rfl rfl (fun _ => ?_) (fun _ => ?_) | refine M6 rfl rfl rfl (fun _ => ?_) (fun _ => ?_)) | (refine IsBin ?_; first | refine B1 rfl rfl rfl rfl ?_ | refine B2 rfl rfl rfl rfl ?_ | refine B3 rfl rfl rfl rfl ?_ | refine B4 rfl rfl rfl rfl ?_ | refine B5 rfl rfl rfl rfl ?_ | refine B6 rfl rfl rfl rfl ?_ | refine B7 rfl rfl rfl rfl rfl ?_ | refine B8 rfl rfl rfl rfl rfl ?_ | refine B9 rfl rfl rfl rfl rfl rfl rfl ?_ | refine BA rfl rfl rfl rfl rfl rfl rfl ?_) | (refine IsConv ?_; refine C1 rfl rfl rfl rfl rfl ?_) | (refine IsLoad ?_; first | refine L1 rfl rfl rfl rfl ?_ | refine L2 rfl rfl rfl rfl rfl ?_) | (refine IsStore ?_; refine S1 rfl rfl rfl rfl rfl rfl rfl (fun _ => ?_)) | (refine IsBox ?_; refine N1 rfl rfl rfl rfl (fun _ => ?_)) | (refine IsAlloc ?_; refine N2 rfl rfl rfl rfl (fun _ => ?_)) | (refine IsBuild ?_; refine U1 rfl rfl rfl rfl rfl rfl ?_) | refine V1 rfl rfl rfl ?_) | (refine IsAt ?_; first | (with_reducible first | refine T1 ?_ | refine T2 ?_ | refine T3 ?_ | refine T4 ?_ | refine T5 ?_ | refine T6 ?_ | refine T7 ?_ | refine T8 ?_ | refine T9 ?_ | refine TA ?_ | refine TB ?_ | refine TC ?_) | ((with_reducible show At _ (PBlock _ _ (Exit.exit _)) _ _); first | refine At_block_hit ?_ | refine At_block_miss rfl ?_)) | (refine IsJ ?_; first | refine J_seq ?_ | refine J_region ?_ | refine J_block ?_ | refine J_skip ?_ | refine J_ret ?_ | refine J_exit ?_ | (refine IsCond ?_; first | refine J_cond_t rfl ?_ | refine J_cond_f rfl ?_ | refine K1 rfl ?_ | refine K2 rfl ?_ | refine K3 rfl ?_ | refine K4 rfl ?_ | refine J_cb rfl (fun _ => ?_) (fun _ => ?_) | refine J_nb rfl (fun _ => ?_) (fun _ => ?_))))
  · rename_i hlt
    have hlt' : i < T := by omega
    have hil : i < ws.length := by omega
    obtain ⟨w, hwi⟩ : ∃ w, ws[i]? = some w := ⟨ws[i], List.getElem?_eq_getElem _⟩
    have hw := hz w (List.mem_of_getElem? hwi)
    obtain ⟨g, rfl⟩ : ∃ g, f = g + 1 := ⟨f - 1, by omega⟩
    simp only [ofF, hlt', if_true, hwi] at hof
    refine JO_fact _ (fun w hs => hR.some (by omega) hs (by repeat (first | exact .head _ | refine .tail _ ?_))) ?_
    rintro ⟨b, o, rfl⟩
    refine JO_val (OV_idx (off := o + i) rfl rfl rfl rfl (by omega) (by omega) (by simp)) rfl rfl ?_
    refine JO_q (OQ_read (v := .int .i64 w) hR (by repeat (first | exact .head _ | refine .tail _ ?_)) rfl rfl (by omega) (by simp [intsV, hwi])) rfl rfl ?_
    cases hg : wordB w with
    | false =>
      rw [hg] at hof
      simp only [Bool.false_eq_true, false_and, if_false] at hof
      refine JO_l (OL_call [] rfl rfl rfl (refUnpack_bad hw hg) rfl) rfl rfl ?_; rintro _ _ ⟨_, ⟨rfl, rfl⟩, rfl⟩
      repeat' (first | (refine IsO ?_; first | refine JO_nil ?_ | (refine IsG ?_; first | refine G1 rfl rfl ?_ | refine G2 rfl ?_) | (refine IsMove ?_; first | refine M1 rfl rfl rfl ?_ | refine M2 rfl rfl rfl ?_ | refine M3 rfl rfl rfl ?_ | refine M4 rfl rfl rfl ?_ | refine M5 rfl rfl rfl (fun _ => ?_) (fun _ => ?_) | refine M6 rfl rfl rfl (fun _ => ?_) (fun _ => ?_)) | (refine IsBin ?_; first | refine B1 rfl rfl rfl rfl ?_ | refine B2 rfl rfl rfl rfl ?_ | refine B3 rfl rfl rfl rfl ?_ | refine B4 rfl rfl rfl rfl ?_ | refine B5 rfl rfl rfl rfl ?_ | refine B6 rfl rfl rfl rfl ?_ | refine B7 rfl rfl rfl rfl rfl ?_ | refine B8 rfl rfl rfl rfl rfl ?_ | refine B9 rfl rfl rfl rfl rfl rfl rfl ?_ | refine BA rfl rfl rfl rfl rfl rfl rfl ?_) | (refine IsConv ?_; refine C1 rfl rfl rfl rfl rfl ?_) | (refine IsLoad ?_; first | refine L1 rfl rfl rfl rfl ?_ | refine L2 rfl rfl rfl rfl rfl ?_) | (refine IsStore ?_; refine S1 rfl rfl rfl rfl rfl rfl rfl (fun _ => ?_)) | (refine IsBox ?_; refine N1 rfl rfl rfl rfl (fun _ => ?_)) | (refine IsAlloc ?_; refine N2 rfl rfl rfl rfl (fun _ => ?_)) | (refine IsBuild ?_; refine U1 rfl rfl rfl rfl rfl rfl ?_) | refine V1 rfl rfl rfl ?_) | (refine IsAt ?_; first | (with_reducible first | refine T1 ?_ | refine T2 ?_ | refine T3 ?_ | refine T4 ?_ | refine T5 ?_ | refine T6 ?_ | refine T7 ?_ | refine T8 ?_ | refine T9 ?_ | refine TA ?_ | refine TB ?_ | refine TC ?_) | ((with_reducible show At _ (PBlock _ _ (Exit.exit _)) _ _); first | refine At_block_hit ?_ | refine At_block_miss rfl ?_)) | (refine IsJ ?_; first | refine J_seq ?_ | refine J_region ?_ | refine J_block ?_ | refine J_skip ?_ | refine J_ret ?_ | refine J_exit ?_ | (refine IsCond ?_; first | refine J_cond_t rfl ?_ | refine J_cond_f rfl ?_ | refine K1 rfl ?_ | refine K2 rfl ?_ | refine K3 rfl ?_ | refine K4 rfl ?_ | refine J_cb rfl (fun _ => ?_) (fun _ => ?_) | refine J_nb rfl (fun _ => ?_) (fun _ => ?_))))
      exact At_ret rfl rfl (.agg rfl rfl rfl (by repeat (first | exact .head _ | refine .tail _ ?_)) rfl (.tmp rfl .nil)) rfl (is := [5]) rfl (by rw [hof]; exact ⟨rfl, rfl⟩)
    | true =>
      obtain ⟨hn1, hn2⟩ := unN_in hg
      obtain ⟨u1, u2⟩ := un_packI hg
      obtain ⟨k, hk⟩ := Int.eq_ofNat_of_zero_le hn1
      rw [hg, hk] at hof
      simp only [true_and, Int.toNat_natCast] at hof
      refine JO_l (OL_call [] rfl rfl rfl (refUnpack_good hw hg) rfl) rfl rfl ?_; rintro _ _ ⟨_, ⟨rfl, rfl⟩, rfl⟩
      rw [hk]
      by_cases hfk : i + 1 + k ≤ T
      case neg =>
        rw [if_neg hfk] at hof
        repeat' (first | (refine IsO ?_; first | refine JO_nil ?_ | (refine IsG ?_; first | refine G1 rfl rfl ?_ | refine G2 rfl ?_) | (refine IsMove ?_; first | refine M1 rfl rfl rfl ?_ | refine M2 rfl rfl rfl ?_ | refine M3 rfl rfl rfl ?_ | refine M4 rfl rfl rfl ?_ | refine M5 rfl rfl rfl (fun _ => ?_) (fun _ => ?_) | refine M6 rfl rfl rfl (fun _ => ?_) (fun _ => ?_)) | (refine IsBin ?_; first | refine B1 rfl rfl rfl rfl ?_ | refine B2 rfl rfl rfl rfl ?_ | refine B3 rfl rfl rfl rfl ?_ | refine B4 rfl rfl rfl rfl ?_ | refine B5 rfl rfl rfl rfl ?_ | refine B6 rfl rfl rfl rfl ?_ | refine B7 rfl rfl rfl rfl rfl ?_ | refine B8 rfl rfl rfl rfl rfl ?_ | refine B9 rfl rfl rfl rfl rfl rfl rfl ?_ | refine BA rfl rfl rfl rfl rfl rfl rfl ?_) | (refine IsConv ?_; refine C1 rfl rfl rfl rfl rfl ?_) | (refine IsLoad ?_; first | refine L1 rfl rfl rfl rfl ?_ | refine L2 rfl rfl rfl rfl rfl ?_) | (refine IsStore ?_; refine S1 rfl rfl rfl rfl rfl rfl rfl (fun _ => ?_)) | (refine IsBox ?_; refine N1 rfl rfl rfl rfl (fun _ => ?_)) | (refine IsAlloc ?_; refine N2 rfl rfl rfl rfl (fun _ => ?_)) | (refine IsBuild ?_; refine U1 rfl rfl rfl rfl rfl rfl ?_) | refine V1 rfl rfl rfl ?_) | (refine IsAt ?_; first | (with_reducible first | refine T1 ?_ | refine T2 ?_ | refine T3 ?_ | refine T4 ?_ | refine T5 ?_ | refine T6 ?_ | refine T7 ?_ | refine T8 ?_ | refine T9 ?_ | refine TA ?_ | refine TB ?_ | refine TC ?_) | ((with_reducible show At _ (PBlock _ _ (Exit.exit _)) _ _); first | refine At_block_hit ?_ | refine At_block_miss rfl ?_)) | (refine IsJ ?_; first | refine J_seq ?_ | refine J_region ?_ | refine J_block ?_ | refine J_skip ?_ | refine J_ret ?_ | refine J_exit ?_ | (refine IsCond ?_; first | refine J_cond_t rfl ?_ | refine J_cond_f rfl ?_ | refine K1 rfl ?_ | refine K2 rfl ?_ | refine K3 rfl ?_ | refine K4 rfl ?_ | refine J_cb rfl (fun _ => ?_) (fun _ => ?_) | refine J_nb rfl (fun _ => ?_) (fun _ => ?_))))
        exact At_ret rfl rfl (.agg rfl rfl rfl (by repeat (first | exact .head _ | refine .tail _ ?_)) rfl (.tmp rfl .nil)) rfl (is := [5]) rfl (by rw [hof]; exact ⟨rfl, rfl⟩)
      obtain ⟨xs, hx1, hx2, hx3⟩ : ∃ xs : List Int, xs.length = k ∧ (∀ j : Nat, j < k → ws[i + 1 + j]? = xs[j]?) ∧ ((intsV ws).drop (i + 1)).take k = intsV xs :=
        ⟨(ws.drop (i + 1)).take k, by simp; omega, fun j hj => by rw [List.getElem?_take_of_lt hj, List.getElem?_drop], by rw [← List.map_drop, ← List.map_take]⟩
      subst hx1
      repeat' (first | (refine IsO ?_; first | refine JO_nil ?_ | (refine IsG ?_; first | refine G1 rfl rfl ?_ | refine G2 rfl ?_) | (refine IsMove ?_; first | refine M1 rfl rfl rfl ?_ | refine M2 rfl rfl rfl ?_ | refine M3 rfl rfl rfl ?_ | refine M4 rfl rfl rfl ?_ | refine M5 rfl rfl rfl (fun _ => ?_) (fun _ => ?_) | refine M6 rfl rfl rfl (fun _ => ?_) (fun _ => ?_)) | (refine IsBin ?_; first | refine B1 rfl rfl rfl rfl ?_ | refine B2 rfl rfl rfl rfl ?_ | refine B3 rfl rfl rfl rfl ?_ | refine B4 rfl rfl rfl rfl ?_ | refine B5 rfl rfl rfl rfl ?_ | refine B6 rfl rfl rfl rfl ?_ | refine B7 rfl rfl rfl rfl rfl ?_ | refine B8 rfl rfl rfl rfl rfl ?_ | refine B9 rfl rfl rfl rfl rfl rfl rfl ?_ | refine BA rfl rfl rfl rfl rfl rfl rfl ?_) | (refine IsConv ?_; refine C1 rfl rfl rfl rfl rfl ?_) | (refine IsLoad ?_; first | refine L1 rfl rfl rfl rfl ?_ | refine L2 rfl rfl rfl rfl rfl ?_) | (refine IsStore ?_; refine S1 rfl rfl rfl rfl rfl rfl rfl (fun _ => ?_)) | (refine IsBox ?_; refine N1 rfl rfl rfl rfl (fun _ => ?_)) | (refine IsAlloc ?_; refine N2 rfl rfl rfl rfl (fun _ => ?_)) | (refine IsBuild ?_; refine U1 rfl rfl rfl rfl rfl rfl ?_) | refine V1 rfl rfl rfl ?_) | (refine IsAt ?_; first | (with_reducible first | refine T1 ?_ | refine T2 ?_ | refine T3 ?_ | refine T4 ?_ | refine T5 ?_ | refine T6 ?_ | refine T7 ?_ | refine T8 ?_ | refine T9 ?_ | refine TA ?_ | refine TB ?_ | refine TC ?_) | ((with_reducible show At _ (PBlock _ _ (Exit.exit _)) _ _); first | refine At_block_hit ?_ | refine At_block_miss rfl ?_)) | (refine IsJ ?_; first | refine J_seq ?_ | refine J_region ?_ | refine J_block ?_ | refine J_skip ?_ | refine J_ret ?_ | refine J_exit ?_ | (refine IsCond ?_; first | refine J_cond_t rfl ?_ | refine J_cond_f rfl ?_ | refine K1 rfl ?_ | refine K2 rfl ?_ | refine K3 rfl ?_ | refine K4 rfl ?_ | refine J_cb rfl (fun _ => ?_) (fun _ => ?_) | refine J_nb rfl (fun _ => ?_) (fun _ => ?_))))
      rename_i b8 _
      rw [if_pos hfk] at hof
      refine J_plan [blk b6 [.int .i64 ws.length, .slice oa os.length oc] 54, blk b8 [.int .i64 (unK w), .int .i64 xs.length, .int .i64 (unP w)] 23] (fun H hl => hl.pick (is := [2, 0]) rfl) [0, 5, 0, 5, 2, 0, 0, 0, 0, 0, 0, 5, 0, 0, 2, 0, 2, 2, 0, 6]
        (.q 0 (.q 1 (.q 2 (.q 3 (.q 5 (.q 6 (.q 7 (.q 8 (.q 9 (.q 10 (.q 11 (.q 12 (.q 13 (.l1 4 (.l1 14 (.q 15 (.l1 16 (.l1 17 (.q 18 (.l1 19 .fin)))))))))))))))))))) (by kernel_rfl) (by kernel_rfl) ?_
      repeat' (refine IsF ?_; first | (refine JF_fin ?_; refine At_np ?_) | (refine JF_op rfl ?_; refine FsO ?_; first | (refine FsBin ?_; first | refine FB1 rfl rfl rfl rfl ?_ | refine FB2 rfl rfl rfl rfl ?_ | refine FB3 rfl rfl rfl rfl ?_ | refine FB4 rfl rfl rfl rfl ?_ | refine FB5 rfl rfl rfl rfl ?_ | refine FB6 rfl rfl rfl rfl ?_ | refine FB7 rfl rfl rfl rfl rfl ?_ | refine FB8 rfl rfl rfl rfl rfl ?_ | refine FB9 rfl rfl rfl rfl rfl rfl rfl ?_ | refine FBA rfl rfl rfl rfl rfl rfl rfl ?_) | (refine FsLoad ?_; first | refine FL1k rfl rfl rfl rfl rfl ?_ | refine FL2k rfl rfl rfl rfl rfl rfl ?_) | (refine FsBuild ?_; refine FU1 rfl rfl rfl rfl rfl rfl ?_) | refine FV1 rfl rfl rfl ?_))
      obtain ⟨o', ho', hko⟩ := map_addn (b := b) (o := o) (m := i + 1 + xs.length) (cap := cap) (k := ((i : Int) + 1).toNat) (by omega) (by omega)
      refine JF_val rfl (OV_slice (m := (i : Int) + 1) (n := (i : Int) + 1 + xs.length) rfl rfl rfl rfl rfl rfl rfl (by omega) (by omega) (by omega) ho') rfl rfl ?_
      rw [show ((i : Int) + 1 + xs.length).toNat - ((i : Int) + 1).toNat = xs.length by omega]
      have hRx : Reads R 1 xs.length (some ⟨b, o', none⟩) (cap - ((i : Int) + 1).toNat) (intsV xs) := by
        rcases hko with e | e
        · rw [← hx3, e, show ((i : Int) + 1).toNat = i + 1 by omega]
          exact hR.sub1 (i + 1) xs.length _ (by omega)
        · obtain rfl : xs = [] := List.eq_nil_of_length_eq_zero (by omega)
          exact Reads.zero
      refine JF_l1 (JFO_l rfl (OL_buildSlice (cs := []) rfl rfl rfl rfl rfl rfl rfl rfl) rfl rfl (.inr ?_) ?_)
      · rintro _ _ ⟨_, rfl, rfl⟩ H hl
        exact hl.pick (is := [3, 1]) rfl
      rintro _ _ ⟨b1, rfl, rfl⟩ _
      refine JF_l1 (JFO_l rfl (OL_appendz (m := xs.length) rfl rfl rfl rfl rfl (hRx.src (by repeat (first | exact .head _ | refine .tail _ ?_))) rfl (fun _ h => by cases h) (by omega) (by omega) (by decide)) rfl rfl (.inr ?_) ?_)
      · rintro _ _ ⟨_, _, rfl, rfl⟩ H hl
        exact hl.pick (is := [4, 2]) rfl
      rintro _ _ ⟨wa, wc, rfl, rfl⟩ _
      repeat' (refine IsF ?_; first | (refine JF_fin ?_; refine At_np ?_) | (refine JF_op rfl ?_; refine FsO ?_; first | (refine FsBin ?_; first | refine FB1 rfl rfl rfl rfl ?_ | refine FB2 rfl rfl rfl rfl ?_ | refine FB3 rfl rfl rfl rfl ?_ | refine FB4 rfl rfl rfl rfl ?_ | refine FB5 rfl rfl rfl rfl ?_ | refine FB6 rfl rfl rfl rfl ?_ | refine FB7 rfl rfl rfl rfl rfl ?_ | refine FB8 rfl rfl rfl rfl rfl ?_ | refine FB9 rfl rfl rfl rfl rfl rfl rfl ?_ | refine FBA rfl rfl rfl rfl rfl rfl rfl ?_) | (refine FsLoad ?_; first | refine FL1k rfl rfl rfl rfl rfl ?_ | refine FL2k rfl rfl rfl rfl rfl rfl ?_) | (refine FsBuild ?_; refine FU1 rfl rfl rfl rfl rfl rfl ?_) | refine FV1 rfl rfl rfl ?_))
      refine JF_l1 (JFO_l rfl (OL_buildSlice (cs := cellsO ⟨i, unK w, unP w, xs, wa, wc⟩) rfl rfl rfl rfl rfl rfl rfl rfl) rfl rfl (.inr ?_) ?_)
      · rintro _ _ ⟨_, rfl, rfl⟩ H hl
        exact hl.pick (is := [5, 3]) rfl
      rintro _ _ ⟨b2, rfl, rfl⟩ _
      refine JF_l1 (JFO_l rfl (OL_appendr (m := 1) rfl rfl rfl rfl rfl P6 ((Reads.blk rfl).src (.head _)) rfl rfl (fun _ h => by cases h) (by omega) (by omega) (by decide)) rfl rfl (.inr ?_) ?_)
      · rintro _ _ ⟨_, _, rfl, rfl⟩ H hl
        exact hl.pick (is := [6, 4]) rfl
      rintro _ _ ⟨a2, c2, rfl, rfl⟩ _
      repeat' (refine IsF ?_; first | (refine JF_fin ?_; refine At_np ?_) | (refine JF_op rfl ?_; refine FsO ?_; first | (refine FsBin ?_; first | refine FB1 rfl rfl rfl rfl ?_ | refine FB2 rfl rfl rfl rfl ?_ | refine FB3 rfl rfl rfl rfl ?_ | refine FB4 rfl rfl rfl rfl ?_ | refine FB5 rfl rfl rfl rfl ?_ | refine FB6 rfl rfl rfl rfl ?_ | refine FB7 rfl rfl rfl rfl rfl ?_ | refine FB8 rfl rfl rfl rfl rfl ?_ | refine FB9 rfl rfl rfl rfl rfl rfl rfl ?_ | refine FBA rfl rfl rfl rfl rfl rfl rfl ?_) | (refine FsLoad ?_; first | refine FL1k rfl rfl rfl rfl rfl ?_ | refine FL2k rfl rfl rfl rfl rfl rfl ?_) | (refine FsBuild ?_; refine FU1 rfl rfl rfl rfl rfl rfl ?_) | refine FV1 rfl rfl rfl ?_))
      refine JF_l1 (JFO_l0 rfl (OL_store rfl rfl rfl rfl rfl rfl (by first | exact P0 | exact P1 | exact P2 | exact P3 | exact P4 | exact P5 | exact P6 | exact P7) (by rfl)) rfl (.inl rfl) ?_)
      rintro _ _ rfl _
      repeat' (refine IsF ?_; first | (refine JF_fin ?_; refine At_np ?_) | (refine JF_op rfl ?_; refine FsO ?_; first | (refine FsBin ?_; first | refine FB1 rfl rfl rfl rfl ?_ | refine FB2 rfl rfl rfl rfl ?_ | refine FB3 rfl rfl rfl rfl ?_ | refine FB4 rfl rfl rfl rfl ?_ | refine FB5 rfl rfl rfl rfl ?_ | refine FB6 rfl rfl rfl rfl ?_ | refine FB7 rfl rfl rfl rfl rfl ?_ | refine FB8 rfl rfl rfl rfl rfl ?_ | refine FB9 rfl rfl rfl rfl rfl rfl rfl ?_ | refine FBA rfl rfl rfl rfl rfl rfl rfl ?_) | (refine FsLoad ?_; first | refine FL1k rfl rfl rfl rfl rfl ?_ | refine FL2k rfl rfl rfl rfl rfl rfl ?_) | (refine FsBuild ?_; refine FU1 rfl rfl rfl rfl rfl rfl ?_) | refine FV1 rfl rfl rfl ?_))
      repeat' (first | (refine IsO ?_; first | refine JO_nil ?_ | (refine IsG ?_; first | refine G1 rfl rfl ?_ | refine G2 rfl ?_) | (refine IsMove ?_; first | refine M1 rfl rfl rfl ?_ | refine M2 rfl rfl rfl ?_ | refine M3 rfl rfl rfl ?_ | refine M4 rfl rfl rfl ?_ | refine M5 rfl rfl rfl (fun _ => ?_) (fun _ => ?_) | refine M6 rfl rfl rfl (fun _ => ?_) (fun _ => ?_)) | (refine IsBin ?_; first | refine B1 rfl rfl rfl rfl ?_ | refine B2 rfl rfl rfl rfl ?_ | refine B3 rfl rfl rfl rfl ?_ | refine B4 rfl rfl rfl rfl ?_ | refine B5 rfl rfl rfl rfl ?_ | refine B6 rfl rfl rfl rfl ?_ | refine B7 rfl rfl rfl rfl rfl ?_ | refine B8 rfl rfl rfl rfl rfl ?_ | refine B9 rfl rfl rfl rfl rfl rfl rfl ?_ | refine BA rfl rfl rfl rfl rfl rfl rfl ?_) | (refine IsConv ?_; refine C1 rfl rfl rfl rfl rfl ?_) | (refine IsLoad ?_; first | refine L1 rfl rfl rfl rfl ?_ | refine L2 rfl rfl rfl rfl rfl ?_) | (refine IsStore ?_; refine S1 rfl rfl rfl rfl rfl rfl rfl (fun _ => ?_)) | (refine IsBox ?_; refine N1 rfl rfl rfl rfl (fun _ => ?_)) | (refine IsAlloc ?_; refine N2 rfl rfl rfl rfl (fun _ => ?_)) | (refine IsBuild ?_; refine U1 rfl rfl rfl rfl rfl rfl ?_) | refine V1 rfl rfl rfl ?_) | (refine IsAt ?_; first | (with_reducible first | refine T1 ?_ | refine T2 ?_ | refine T3 ?_ | refine T4 ?_ | refine T5 ?_ | refine T6 ?_ | refine T7 ?_ | refine T8 ?_ | refine T9 ?_ | refine TA ?_ | refine TB ?_ | refine TC ?_) | ((with_reducible show At _ (PBlock _ _ (Exit.exit _)) _ _); first | refine At_block_hit ?_ | refine At_block_miss rfl ?_)) | (refine IsJ ?_; first | refine J_seq ?_ | refine J_region ?_ | refine J_block ?_ | refine J_skip ?_ | refine J_ret ?_ | refine J_exit ?_ | (refine IsCond ?_; first | refine J_cond_t rfl ?_ | refine J_cond_f rfl ?_ | refine K1 rfl ?_ | refine K2 rfl ?_ | refine K3 rfl ?_ | refine K4 rfl ?_ | refine J_cb rfl (fun _ => ?_) (fun _ => ?_) | refine J_nb rfl (fun _ => ?_) (fun _ => ?_))))
      have e2 : (os ++ [(⟨i, unK w, unP w, xs, wa, wc⟩ : RO)]).flatMap cellsO = os.flatMap cellsO ++ cellsO ⟨i, unK w, unP w, xs, wa, wc⟩ := by simp
      have e3 : (os ++ [(⟨i, unK w, unP w, xs, wa, wc⟩ : RO)]).length = os.length + 1 := by simp
      rw [show ((i : Int) + 1 + xs.length) = ((i + 1 + xs.length : Nat) : Int) by omega]
      refine At_round (i + 1 + xs.length, st.set i true, g, os ++ [⟨i, unK w, unP w, xs, wa, wc⟩], a2, c2) (by show T - (i + 1 + xs.length) < T - i; omega) ⟨hfk, by show T < i + 1 + xs.length + g; omega, hof, hc.snoc (o := ⟨i, unK w, unP w, xs, wa, wc⟩) rfl (by dsimp only; rw [← hk]; exact u2.1) (by dsimp only; rw [← hk, u1]; exact hwi) hx2⟩ (by repeat (first | exact True.intro | refine And.intro rfl ?_)) ?_
      intro H hl
      have h2 := hl.pick (is := [3, 6, 5, 0, 0, 3]) rfl
      have h3 := RW.to (news := [⟨i, unK w, unP w, xs, wa, wc⟩]) (os := os) (os' := os ++ [⟨i, unK w, unP w, xs, wa, wc⟩]) (dr := []) (by rw [List.append_nil]; exact List.perm_append_comm) h2
      dsimp only
      rw [e3]
      unfold objsZ
      rw [e2, e3]
      exact h3.pick (is := [1, 1, 1, 0, 0]) rfl
  · have hii : i = T := by omega
    subst hii
    have e : ofF ws i f i st = some st := by cases f <;> simp [ofF]
    rw [e] at hof
    refine At_ret rfl rfl (.agg rfl rfl rfl (by repeat (first | exact .head _ | refine .tail _ ?_)) rfl (.tmp rfl .nil)) rfl (is := [2, 2, 2]) rfl ?_
    rw [hof]
    exact ⟨oa, oc, os, hc, rfl, rfl⟩
end ops
end Go.Proofs.Ytiiefnnllcghmaa
