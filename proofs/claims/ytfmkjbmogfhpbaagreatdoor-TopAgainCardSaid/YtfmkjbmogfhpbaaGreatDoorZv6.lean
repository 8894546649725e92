/-
  Our own: what the claims of Zv share, 6 of 6: RwTs Th Tk Rk Tl Tg Tm Tn RwTa.
-/
import Derived.Test.YtfmkjbmogfhpbaaGreatDoorZv5
import Derived.Test.YtfmkjbmogfhpbaaGreatDoorRows
import Derived.ChangeArms
import Derived.WalkKit
import Derived.ProofKit
import Derived.OpenShut
import Derived.ChangeOld
import Derived.Below
import Derived.SizedLaws
import Derived.Carry
import Derived.Lib.SmallJoins
import Derived.Laws.StructEq
import Derived.Tactics
import Derived.Laws.Slices
import Derived.Deep.Quiet
import Derived.IntWalk
import Derived.Shelf.Abstract
import Derived.Laws.Entries
import Derived.Laws.Rows
import Derived.TacticsIn
import Derived.OrdersIn
import Derived.KernelRfl
import Derived.RangeFuncStops
import Derived.RangeFuncLeaves
import Derived.LoopNIn
import Derived.Test.YtfmkjbmogfhpbaaGreatDoorProg
import Derived.LaidLaws
import Derived.Handed
import Derived.Lay
import Derived.MakeChecks
import Derived.Laws.Shifts
import Derived.Laws.Bits64b
import Derived.Shelf.Bits.Mul64
import Derived.Maps.Range
import Derived.Maps.Views
set_option linter.unusedVariables false
set_option linter.unusedSimpArgs false
namespace Go.Proofs.YtfmkjbmogfhpbaaGreatDoor
open Go.Sep Go.ChangeShapes Go.WideShapes Go.ChangeAt Go.RowKit
theorem nm_ok {az bz : List Int} (ha : az.length = 5) (hb : bz.length = 5) (wa : ∀ z ∈ az, (Lit.int .u8 z).wf = true) (wb : ∀ z ∈ bz, (Lit.int .u8 z).wf = true) :
    ∃ x0 x1 x2 x3 x4 x5 x6 x7 x8 x9 : Int, az.map (Value.int .u8) ++ bz.map (Value.int .u8) = [.int .u8 x0, .int .u8 x1, .int .u8 x2, .int .u8 x3, .int .u8 x4, .int .u8 x5, .int .u8 x6, .int .u8 x7, .int .u8 x8, .int .u8 x9] ∧
      NmOk [.int .u8 x0, .int .u8 x1, .int .u8 x2, .int .u8 x3, .int .u8 x4, .int .u8 x5, .int .u8 x6, .int .u8 x7, .int .u8 x8, .int .u8 x9] 0 ∧ NmOk [.int .u8 x0, .int .u8 x1, .int .u8 x2, .int .u8 x3, .int .u8 x4, .int .u8 x5, .int .u8 x6, .int .u8 x7, .int .u8 x8, .int .u8 x9] 1 := by
  match az, ha, bz, hb with
  | [x0, x1, x2, x3, x4], _, [x5, x6, x7, x8, x9], _ =>
    exact ⟨x0, x1, x2, x3, x4, x5, x6, x7, x8, x9, rfl, ⟨x0, x1, x2, x3, x4, bounds_u8 (wa _ (by simp)), bounds_u8 (wa _ (by simp)), bounds_u8 (wa _ (by simp)), bounds_u8 (wa _ (by simp)), bounds_u8 (wa _ (by simp)), rfl⟩, x5, x6, x7, x8, x9, bounds_u8 (wb _ (by simp)), bounds_u8 (wb _ (by simp)), bounds_u8 (wb _ (by simp)), bounds_u8 (wb _ (by simp)), bounds_u8 (wb _ (by simp)), rfl⟩
theorem pk_ok {W : World} {a : Option Addr} {c : Nat} {ys : List (Int × Int)} (h : Reads (Low W) 2 ys.length a c (ys.flatMap pickC) ∧ (∀ y ∈ ys, (Lit.int .u8 y.1).wf = true ∧ (Lit.int .i64 y.2).wf = true) ∧ ys.length ≤ 9223372036854775807) : PkOk (Low W) a c ys :=
  ⟨h.1, fun y hy => ⟨bounds_u8 (h.2.1 y hy).1, bounds_i64 (h.2.1 y hy).2⟩, h.2.2⟩
open Go.Sep
theorem and_digit {w a a' m m' : Nat} (ha : a < 2 ^ w) (hm : m < 2 ^ w) : (a + 2 ^ w * a') &&& (m + 2 ^ w * m') = (a &&& m) + 2 ^ w * (a' &&& m') := by
  have h1 : a + 2 ^ w * a' = 2 ^ w * a' + a := Nat.add_comm _ _
  have h2 : m + 2 ^ w * m' = 2 ^ w * m' + m := Nat.add_comm _ _
  have h3 : (a &&& m) + 2 ^ w * (a' &&& m') = 2 ^ w * (a' &&& m') + (a &&& m) := Nat.add_comm _ _
  have hlt : a &&& m < 2 ^ w := Nat.and_lt_two_pow _ hm
  rw [h1, h2, h3]
  apply Nat.eq_of_testBit_eq
  intro i
  rw [Nat.testBit_and, Nat.testBit_two_pow_mul_add _ ha, Nat.testBit_two_pow_mul_add _ hm, Nat.testBit_two_pow_mul_add _ hlt]
  split
  · rw [Nat.testBit_and]
  · rw [Nat.testBit_and]
def valD (w : Nat) : List Nat → Nat
  | [] => 0
  | d :: r => d + 2 ^ w * valD w r
theorem halves {w h m : Nat} (hw : w = h + h) : ∀ (ds : List Nat), (∀ d ∈ ds, d < 2 ^ w) → ((valD w ds / 2 ^ h) &&& valD w (ds.map fun _ => 2 ^ h - 1)) + (valD w ds &&& valD w (ds.map fun _ => 2 ^ h - 1)) = valD w (ds.map fun d => d / 2 ^ h + d % 2 ^ h)
  | [], _ => by simp [valD]
  | d :: r, hd => by
    have h0 := hd d (.head _)
    have ih := halves (m := m) hw r fun x hx => hd x (.tail _ hx)
    have hp : 0 < 2 ^ h := Nat.two_pow_pos h
    have hpw : 2 ^ w = 2 ^ h * 2 ^ h := by rw [hw, Nat.pow_add]
    have hlt : 2 ^ h - 1 < 2 ^ w := by
      have : 2 ^ h ≤ 2 ^ w := Nat.pow_le_pow_right (by omega) (by omega)
      omega
    simp only [valD, List.map_cons]
    generalize valD w r = x at ih ⊢
    generalize valD w (r.map fun _ => 2 ^ h - 1) = M at ih ⊢
    have e1 : (d + 2 ^ w * x) / 2 ^ h = (d / 2 ^ h + 2 ^ h * (x % 2 ^ h)) + 2 ^ w * (x / 2 ^ h) := by
      rw [hpw, Nat.mul_assoc, Nat.add_mul_div_left _ _ hp]
      have := Nat.div_add_mod x (2 ^ h)
      have e2 : 2 ^ h * x = 2 ^ h * (2 ^ h * (x / 2 ^ h)) + 2 ^ h * (x % 2 ^ h) := by rw [← Nat.mul_add, this]
      rw [e2, Nat.mul_assoc]
      omega
    have hdh : d / 2 ^ h < 2 ^ h := by rw [Nat.div_lt_iff_lt_mul hp, ← hpw]; exact h0
    have ha : d / 2 ^ h + 2 ^ h * (x % 2 ^ h) < 2 ^ w := by
      have h1 : x % 2 ^ h < 2 ^ h := Nat.mod_lt _ hp
      have h2 : 2 ^ h * (x % 2 ^ h) ≤ 2 ^ h * (2 ^ h - 1) := Nat.mul_le_mul_left _ (by omega)
      have h3 : 2 ^ h * (2 ^ h - 1) + 2 ^ h = 2 ^ w := by rw [hpw, ← Nat.mul_succ]; congr 1; omega
      omega
    rw [e1, and_digit ha hlt, and_digit h0 hlt, Nat.and_two_pow_sub_one_eq_mod, Nat.and_two_pow_sub_one_eq_mod, Nat.add_mul_mod_self_left, Nat.mod_eq_of_lt hdh]
    have : 2 ^ w * valD w (r.map fun d => d / 2 ^ h + d % 2 ^ h) = 2 ^ w * (x / 2 ^ h &&& M) + 2 ^ w * (x &&& M) := by rw [← ih, Nat.mul_add]
    omega
theorem thirds : ∀ (ds : List Nat), (∀ d ∈ ds, d % 16 ≤ 4 ∧ d / 16 ≤ 4) → ((valD 8 ds / 16 + valD 8 ds) &&& valD 8 (ds.map fun _ => 15)) = valD 8 (ds.map fun d => d / 16 + d % 16)
  | [], _ => by simp [valD]
  | d :: r, hd => by
    obtain ⟨h0, h1⟩ := hd d (.head _)
    have ih := thirds r fun x hx => hd x (.tail _ hx)
    have hx : valD 8 r % 16 ≤ 4 := by
      cases r with
      | nil => simp [valD]
      | cons e r =>
        have := (hd e (.tail _ (.head _))).1
        simp only [valD]
        omega
    simp only [valD, List.map_cons]
    generalize valD 8 r = x at ih hx ⊢
    generalize valD 8 (r.map fun _ => 15) = M at ih ⊢
    have e1 : (d + 2 ^ 8 * x) / 16 + (d + 2 ^ 8 * x) = (d + d / 16 + 16 * (x % 16)) + 2 ^ 8 * (x / 16 + x) := by omega
    rw [e1, and_digit (by omega) (by omega), ih, show (15 : Nat) = 2 ^ 4 - 1 from rfl, Nat.and_two_pow_sub_one_eq_mod]
    omega
def pairD (h : Nat) : List Nat → List Nat
  | a :: b :: r => (a + 2 ^ h * b) :: pairD h r
  | _ => []
def sumsD : List Nat → List Nat
  | a :: b :: r => (a + b) :: sumsD r
  | _ => []
theorem pair_val {h : Nat} : ∀ (k : Nat) (l : List Nat), l.length = 2 * k → valD (h + h) (pairD h l) = valD h l
  | 0, l, hl => by
    have : l = [] := List.eq_nil_of_length_eq_zero (by omega)
    subst this; rfl
  | k + 1, [], hl => by simp at hl
  | k + 1, [_], hl => by simp at hl; omega
  | k + 1, a :: b :: r, hl => by
    have ih := pair_val (h := h) k r (by simp at hl; omega)
    simp only [pairD, valD, ih]
    rw [Nat.pow_add, Nat.mul_add, Nat.mul_assoc, Nat.add_assoc]
theorem pair_sums {h : Nat} : ∀ (l : List Nat), (∀ d ∈ l, d < 2 ^ h) → (pairD h l).map (fun d => d / 2 ^ h + d % 2 ^ h) = sumsD l
  | [], _ => rfl
  | [_], _ => rfl
  | a :: b :: r, hl => by
    have ih := pair_sums (h := h) r fun x hx => hl x (.tail _ (.tail _ hx))
    have ha := hl a (.head _)
    have hp : 0 < 2 ^ h := Nat.two_pow_pos h
    simp only [pairD, sumsD, List.map_cons, ih]
    rw [Nat.add_mul_div_left _ _ hp, Nat.div_eq_of_lt ha, Nat.add_mul_mod_self_left, Nat.mod_eq_of_lt ha]
    congr 1
    omega
theorem sums_sum : ∀ (k : Nat) (l : List Nat), l.length = 2 * k → (sumsD l).sum = l.sum ∧ (sumsD l).length = k
  | 0, l, hl => by
    have : l = [] := List.eq_nil_of_length_eq_zero (by omega)
    subst this; exact ⟨rfl, rfl⟩
  | k + 1, [], hl => by simp at hl
  | k + 1, [_], hl => by simp at hl; omega
  | k + 1, a :: b :: r, hl => by
    obtain ⟨h1, h2⟩ := sums_sum k r (by simp at hl; omega)
    simp only [sumsD, List.sum_cons, List.length_cons, h1, h2]
    exact ⟨by omega, trivial⟩
theorem sums_le {c : Nat} : ∀ (l : List Nat), (∀ d ∈ l, d ≤ c) → ∀ d ∈ sumsD l, d ≤ c + c
  | [], _, d, hd => by cases hd
  | [_], _, d, hd => by cases hd
  | a :: b :: r, hl, d, hd => by
    have ha := hl a (.head _)
    have hb := hl b (.tail _ (.head _))
    rcases List.mem_cons.1 hd with e | e
    · omega
    · exact sums_le r (fun x hx => hl x (.tail _ (.tail _ hx))) d e
def binD : Nat → Nat → List Nat
  | 0, _ => []
  | k + 1, x => x % 2 :: binD k (x / 2)
theorem bin_val : ∀ (k x : Nat), x < 2 ^ k → valD 1 (binD k x) = x
  | 0, x, h => by
    have : x < 1 := h
    simp [binD, valD]; omega
  | k + 1, x, h => by
    have ih := bin_val k (x / 2) (by rw [Nat.pow_succ] at h; omega)
    simp only [binD, valD, ih]
    omega
theorem bin_len : ∀ (k x : Nat), (binD k x).length = k
  | 0, _ => rfl
  | k + 1, x => by simp [binD, bin_len k]
theorem bin_lt : ∀ (k x : Nat), ∀ d ∈ binD k x, d ≤ 1
  | 0, _, d, hd => by cases hd
  | k + 1, x, d, hd => by
    rcases List.mem_cons.1 hd with e | e
    · omega
    · exact bin_lt k _ d e
theorem pair_le {h c : Nat} : ∀ (l : List Nat), (∀ d ∈ l, d ≤ c) → ∀ d ∈ pairD h l, ∃ a b, a ≤ c ∧ b ≤ c ∧ d = a + 2 ^ h * b
  | [], _, d, hd => by cases hd
  | [_], _, d, hd => by cases hd
  | a :: b :: r, hl, d, hd => by
    rcases List.mem_cons.1 hd with e | e
    · exact ⟨a, b, hl a (.head _), hl b (.tail _ (.head _)), e⟩
    · exact pair_le r (fun x hx => hl x (.tail _ (.tail _ hx))) d e
theorem pair_len {h : Nat} : ∀ (k : Nat) (l : List Nat), l.length = 2 * k → (pairD h l).length = k
  | 0, l, hl => by
    have : l = [] := List.eq_nil_of_length_eq_zero (by omega)
    subst this; rfl
  | k + 1, [], hl => by simp at hl
  | k + 1, [_], hl => by simp at hl; omega
  | k + 1, a :: b :: r, hl => by
    simp only [pairD, List.length_cons]
    rw [pair_len k r (by simp at hl; omega)]
theorem mask_len {w c : Nat} {l : List Nat} {k : Nat} (h : l.length = k) : valD w (l.map fun _ => c) = valD w (List.replicate k c) := by
  congr 1
  rw [List.map_const', h]
theorem half_step {h k c x M : Nat} {l : List Nat} (hl : l.length = 2 * k) (hv : valD h l = x) (hc : ∀ d ∈ l, d ≤ c) (hch : c < 2 ^ h) (hM : valD (h + h) (List.replicate k (2 ^ h - 1)) = M) :
    valD (h + h) (sumsD l) = (x / 2 ^ h &&& M) + (x &&& M) := by
  have h1 := halves (w := h + h) (h := h) (m := 0) rfl (pairD h l) (fun d hd => by
    obtain ⟨a, b, ha, hb, rfl⟩ := pair_le l hc d hd
    rw [Nat.pow_add]
    have : 2 ^ h * b ≤ 2 ^ h * (2 ^ h - 1) := Nat.mul_le_mul_left _ (by omega)
    have h3 : 2 ^ h * (2 ^ h - 1) + 2 ^ h = 2 ^ h * 2 ^ h := by rw [← Nat.mul_succ]; congr 1; omega
    omega)
  rw [pair_val k l hl, hv, mask_len (pair_len k l hl), hM, pair_sums l (fun d hd => Nat.lt_of_le_of_lt (hc d hd) hch)] at h1
  exact h1.symm
theorem valD_le {w c : Nat} : ∀ (l : List Nat), (∀ d ∈ l, d ≤ c) → valD w l ≤ valD w (List.replicate l.length c)
  | [], _ => Nat.le_refl _
  | d :: r, hl => by
    have ih := valD_le (w := w) r fun x hx => hl x (.tail _ hx)
    have h0 := hl d (.head _)
    simp only [valD, List.length_cons, List.replicate_succ]
    have := Nat.mul_le_mul_left (2 ^ w) ih
    omega
theorem ones_plain {x y1 y2 y3 : Nat} (hx : x < 18446744073709551616) (h1 : y1 = (x / 2 ^ 1 &&& 6148914691236517205) + (x &&& 6148914691236517205)) (h2 : y2 = (y1 / 2 ^ 2 &&& 3689348814741910323) + (y1 &&& 3689348814741910323)) (h3 : y3 = (y2 / 16 + y2) &&& 1085102592571150095) :
    y1 < 18446744073709551616 ∧ y2 / 16 + y2 < 18446744073709551616 ∧ ∃ c0 c1 c2 c3 c4 c5 c6 c7 : Nat, y3 = c0 + 256 * (c1 + 256 * (c2 + 256 * (c3 + 256 * (c4 + 256 * (c5 + 256 * (c6 + 256 * c7)))))) ∧
      (c0 ≤ 8 ∧ c1 ≤ 8 ∧ c2 ≤ 8 ∧ c3 ≤ 8 ∧ c4 ≤ 8 ∧ c5 ≤ 8 ∧ c6 ≤ 8 ∧ c7 ≤ 8) ∧ c0 + c1 + c2 + c3 + c4 + c5 + c6 + c7 = (binD 64 x).sum := by
  have hv := bin_val 64 x hx
  have s1 := half_step (h := 1) (k := 32) (c := 1) (M := 6148914691236517205) (bin_len 64 x) hv (bin_lt 64 x) (by decide) (by decide +kernel)
  rw [← h1] at s1
  have l1 := sums_sum 32 _ (bin_len 64 x)
  have b1 := sums_le (c := 1) _ (bin_lt 64 x)
  have s2 := half_step (h := 2) (k := 16) (c := 2) (M := 3689348814741910323) l1.2 s1 b1 (by decide) (by decide +kernel)
  rw [← h2] at s2
  have l2 := sums_sum 16 _ l1.2
  have b2 := sums_le (c := 2) _ b1
  have hp : valD 8 (pairD 4 (sumsD (sumsD (binD 64 x)))) = y2 := (pair_val (h := 4) 8 _ l2.2).trans s2
  have s3 := thirds (pairD 4 (sumsD (sumsD (binD 64 x)))) (fun d hd => by
    obtain ⟨a, b, ha, hb, rfl⟩ := pair_le _ b2 d hd
    omega)
  have hps := pair_sums (h := 4) (sumsD (sumsD (binD 64 x))) (fun d hd => by have := b2 d hd; omega)
  rw [hp, mask_len (pair_len 8 _ l2.2), show valD 8 (List.replicate 8 15) = 1085102592571150095 by decide +kernel, ← h3] at s3
  have hps' : (pairD 4 (sumsD (sumsD (binD 64 x)))).map (fun d => d / 16 + d % 16) = sumsD (sumsD (sumsD (binD 64 x))) := hps
  rw [hps'] at s3
  have l3 := sums_sum 8 _ l2.2
  have b3 := sums_le (c := 4) _ b2
  have e1 : y1 ≤ valD 2 (List.replicate 32 2) := by
    have := valD_le (w := 2) _ b1
    rw [l1.2] at this
    exact s1 ▸ this
  have e2 : y2 ≤ valD 4 (List.replicate 16 4) := by
    have := valD_le (w := 4) _ b2
    rw [l2.2] at this
    exact s2 ▸ this
  have e1' : valD 2 (List.replicate 32 2) = 12297829382473034410 := by decide +kernel
  have e2' : valD 4 (List.replicate 16 4) = 4919131752989213764 := by decide +kernel
  refine ⟨by omega, by omega, ?_⟩
  have hsum : (sumsD (sumsD (sumsD (binD 64 x)))).sum = (binD 64 x).sum := l3.1.trans (l2.1.trans l1.1)
  generalize sumsD (sumsD (sumsD (binD 64 x))) = L at s3 l3 b3 hsum
  match L, l3.2, s3, b3, hsum with
  | [c0, c1, c2, c3, c4, c5, c6, c7], _, s3, b3, hsum =>
    refine ⟨c0, c1, c2, c3, c4, c5, c6, c7, ?_, ⟨b3 _ (by simp), b3 _ (by simp), b3 _ (by simp), b3 _ (by simp), b3 _ (by simp), b3 _ (by simp), b3 _ (by simp), b3 _ (by simp)⟩, ?_⟩
    · have hv8 : ∀ (d : Nat) (r : List Nat), valD 8 (d :: r) = d + 256 * valD 8 r := fun d r => rfl
      rw [s3, hv8, hv8, hv8, hv8, hv8, hv8, hv8, hv8]
      rfl
    · rw [← hsum]
      simp only [List.sum_cons, List.sum_nil, Nat.add_zero, Nat.add_assoc]
open Go.Sep
def cntB (ms : List Nat) : Nat → Nat
  | 0 => 0
  | i + 1 => cntB ms i + (bitB ms i).toNat
def cntW (ms : List Nat) : Nat → Nat
  | 0 => 0
  | k + 1 => cntW ms k + (binD 64 (ms.getD k 0)).sum
theorem bin_next : ∀ (r x : Nat), (binD (r + 1) x).sum = (binD r x).sum + (x.testBit r).toNat
  | 0, x => by
    have h : x.testBit 0 = decide (x % 2 = 1) := Nat.testBit_zero x
    simp only [binD, List.sum_cons, List.sum_nil, h]
    rcases Nat.mod_two_eq_zero_or_one x with e | e <;> simp [e]
  | r + 1, x => by
    have ih := bin_next r (x / 2)
    have h : x.testBit (r + 1) = (x / 2).testBit r := Nat.testBit_succ x r
    rw [h]
    simp only [binD, List.sum_cons] at ih ⊢
    omega
theorem bin_le : ∀ (r x : Nat), (binD r x).sum ≤ r
  | 0, x => Nat.le_refl _
  | r + 1, x => by
    have ih := bin_le r x
    rw [bin_next]
    cases x.testBit r <;> simp <;> omega
theorem bin_mod : ∀ (k r x : Nat), r ≤ k → (binD k (x % 2 ^ r)).sum = (binD r x).sum
  | 0, r, x, h => by
    obtain rfl : r = 0 := by omega
    rfl
  | k + 1, r, x, h => by
    rw [bin_next, Nat.testBit_mod_two_pow]
    rcases Nat.lt_or_ge k r with e | e
    · obtain rfl : r = k + 1 := by omega
      have h1 : x % 2 ^ (k + 1) % 2 ^ k = x % 2 ^ k := Nat.mod_mod_of_dvd _ (Nat.pow_dvd_pow 2 (Nat.le_succ k))
      have i1 := bin_mod k k (x % 2 ^ (k + 1)) (Nat.le_refl _)
      have i2 := bin_mod k k x (Nat.le_refl _)
      rw [h1, i2] at i1
      rw [bin_next, i1, show decide (k < k + 1) = true from decide_eq_true (Nat.lt_succ_self k), Bool.true_and]
    · rw [bin_mod k r x e, show decide (k < r) = false from decide_eq_false (by omega), Bool.false_and]
      rfl
theorem cntB_words {ms : List Nat} (k : Nat) : ∀ r, r ≤ 64 → cntB ms (64 * k + r) = cntB ms (64 * k) + (binD r (ms.getD k 0)).sum
  | 0, _ => rfl
  | r + 1, h => by
    have ih := cntB_words (ms := ms) k r (by omega)
    rw [bin_next]
    show cntB ms (64 * k + r) + (bitB ms (64 * k + r)).toNat = _
    rw [ih]
    unfold bitB
    rw [show (64 * k + r) / 64 = k by omega, show (64 * k + r) % 64 = r by omega]
    omega
theorem cntW_eq {ms : List Nat} : ∀ k, cntB ms (64 * k) = cntW ms k
  | 0 => rfl
  | k + 1 => by
    show cntB ms (64 * k + 64) = _
    rw [cntB_words k 64 (Nat.le_refl _), cntW_eq k]
    rfl
theorem cntW_le {ms : List Nat} : ∀ k, cntW ms k ≤ 64 * k
  | 0 => Nat.le_refl _
  | k + 1 => by
    have := cntW_le (ms := ms) k
    have h2 := bin_le 64 (ms.getD k 0)
    show cntW ms k + _ ≤ _
    omega
theorem cntB_le {ms : List Nat} : ∀ i, cntB ms i ≤ i
  | 0 => Nat.le_refl _
  | i + 1 => by
    have := cntB_le (ms := ms) i
    show cntB ms i + (bitB ms i).toNat ≤ _
    have : (bitB ms i).toNat ≤ 1 := Bool.toNat_le _
    omega
theorem cntB_none {ms : List Nat} {a : Nat} : ∀ m, (∀ x, a ≤ x → x < a + m → bitB ms x = false) → cntB ms (a + m) = cntB ms a
  | 0, _ => rfl
  | m + 1, h => by
    have ih := cntB_none (ms := ms) (a := a) m fun x h1 h2 => h x h1 (by omega)
    show cntB ms (a + m) + (bitB ms (a + m)).toNat = _
    rw [ih, h (a + m) (by omega) (by omega)]
    rfl
theorem cntB_live {ws : List Int} {ms : List Nat} : ∀ {os : List RO} {i T : Nat}, Ch ws i os T → (∀ x, i ≤ x → x < T → (bitB ms x = true ↔ ∃ o ∈ os, o.i = x ∧ lvB ms o = true)) → cntB ms T = cntB ms i + (lvs ms os).length
  | [], i, T, h, hb => by
    obtain rfl : i = T := h
    rfl
  | o :: r, i, T, h, hb => by
    have hi := h.1
    have hr := h.2.2.2.2
    have hge := hr.ge
    have hle := hr.le
    have ih := cntB_live hr fun x h1 h2 => by
      rw [hb x (by omega) h2]
      constructor
      · rintro ⟨o', ho', e1, e2⟩
        rcases List.mem_cons.1 ho' with rfl | ho'
        · omega
        · exact ⟨o', ho', e1, e2⟩
      · rintro ⟨o', ho', e1, e2⟩
        exact ⟨o', .tail _ ho', e1, e2⟩
    have h0 : bitB ms i = lvB ms o := by
      rw [Bool.eq_iff_iff, hb i (Nat.le_refl _) (by omega)]
      constructor
      · rintro ⟨o', ho', e1, e2⟩
        rcases List.mem_cons.1 ho' with rfl | ho'
        · exact e2
        · have := hge o' ho'
          omega
      · exact fun e => ⟨o, .head _, hi, e⟩
    have h1 : cntB ms (i + 1 + o.ws.length) = cntB ms (i + 1) := cntB_none _ fun x k1 k2 => by
      rw [Bool.eq_false_iff]
      intro e
      obtain ⟨o', ho', e1, e2⟩ := (hb x (by omega) (by omega)).1 e
      rcases List.mem_cons.1 ho' with rfl | ho'
      · omega
      · have := hge o' ho'
        omega
    rw [ih, h1]
    show cntB ms i + (bitB ms i).toNat + _ = _
    rw [h0]
    unfold lvs
    rw [List.filter_cons]
    cases lvB ms o <;> simp <;> omega
end Go.Proofs.YtfmkjbmogfhpbaaGreatDoor
namespace Go.Sep
open Go.RowKit
section ops
variable {C : Ctx} {g : Regs} {t t' : TypeId} {x y : Operand} {a b n : Nat}
theorem OV_addU (hx : ev g x = some (.int .u64 (a : Int))) (hy : ev g y = some (.int .u64 (b : Int))) (h : a + b < 18446744073709551616) : OpV C g (.binOp .add t x y t') (.int .u64 ((a + b : Nat) : Int)) := by
  refine OV_binr hx hy fun w => ?_
  have e : IntKind.u64.wrap ((a : Int) + (b : Int)) = ((a + b : Nat) : Int) := by
    rw [IntKind.wrap_u64]
    omega
  rw [← e]
  simp [binOp, Op.intArith, Pure.pure, Sem.run]
theorem OV_subU (hx : ev g x = some (.int .u64 (a : Int))) (hy : ev g y = some (.int .u64 (b : Int))) (ha : a < 18446744073709551616) (h : b ≤ a) : OpV C g (.binOp .sub t x y t') (.int .u64 ((a - b : Nat) : Int)) := by
  refine OV_binr hx hy fun w => ?_
  have e : IntKind.u64.wrap ((a : Int) - (b : Int)) = ((a - b : Nat) : Int) := by
    rw [IntKind.wrap_u64]
    omega
  rw [← e]
  simp [binOp, Op.intArith, Pure.pure, Sem.run]
theorem and127 {a : Nat} (ha : a < 9223372036854775808) : IntKind.i64.wrap ((BitVec.ofInt IntKind.i64.bits (a : Int) &&& BitVec.ofInt IntKind.i64.bits 127).toNat : Int) = ((a % 128 : Nat) : Int) := by
  have h1 : (BitVec.ofInt 64 (a : Int)).toNat = a := by
    rw [BitVec.ofInt_natCast, BitVec.toNat_ofNat]; exact Nat.mod_eq_of_lt (by omega)
  have h2 : (BitVec.ofInt 64 127).toNat = 127 := by decide
  show IntKind.i64.wrap ((BitVec.ofInt 64 (a : Int) &&& BitVec.ofInt 64 127).toNat : Int) = _
  rw [BitVec.toNat_and, h1, h2, show (127 : Nat) = 2 ^ 7 - 1 from rfl, Nat.and_two_pow_sub_one_eq_mod]
  exact wrap_id (by omega) (by omega)
end ops
end Go.Sep
set_option maxRecDepth 8000
namespace Go.Proofs.YtfmkjbmogfhpbaaGreatDoor
open Go.Sep
theorem valD_drop {w : Nat} : ∀ (k : Nat) (ds : List Nat), (∀ d ∈ ds, d < 2 ^ w) → valD w ds / (2 ^ w) ^ k = valD w (ds.drop k)
  | 0, ds, _ => by simp
  | k + 1, [], _ => by simp [valD]
  | k + 1, d :: r, h => by
    have ih := valD_drop k r fun x hx => h x (.tail _ hx)
    have h0 := h d (.head _)
    show (d + 2 ^ w * valD w r) / (2 ^ w) ^ (k + 1) = valD w (r.drop k)
    rw [Nat.pow_succ, Nat.mul_comm ((2 ^ w) ^ k), ← Nat.div_div_eq_div_mul, Nat.add_mul_div_left _ _ (Nat.two_pow_pos w), Nat.div_eq_of_lt h0, Nat.zero_add, ih]
def addD : List Nat → List Nat → List Nat
  | [], b => b
  | a, [] => a
  | x :: a, y :: b => (x + y) :: addD a b
theorem addD_val {w : Nat} : ∀ (a b : List Nat), valD w (addD a b) = valD w a + valD w b
  | [], b => by simp [addD, valD]
  | x :: a, [] => by simp [addD, valD]
  | x :: a, y :: b => by
    simp only [addD, valD, addD_val a b, Nat.mul_add]
    omega
theorem addD_le {c : Nat} : ∀ (a b : List Nat), (∀ d ∈ a, d ≤ c) → (∀ d ∈ b, d ≤ c) → ∀ d ∈ addD a b, d ≤ c + c
  | [], b, _, h, d, hd => by have := h d (by simpa [addD] using hd); omega
  | x :: a, [], h, _, d, hd => by have := h d (by simpa [addD] using hd); omega
  | x :: a, y :: b, h, h', d, hd => by
    rcases List.mem_cons.1 hd with e | e
    · have h1 := h x (.head _)
      have h2 := h' y (.head _)
      omega
    · exact addD_le a b (fun x hx => h x (.tail _ hx)) (fun x hx => h' x (.tail _ hx)) d e
theorem fold_step {L : List Nat} {k c y y' : Nat} (hv : valD 8 L = y) (hc : ∀ d ∈ L, d ≤ c) (hk : c < 256) (h : y' = y + y / (2 ^ 8) ^ k) : valD 8 (addD L (L.drop k)) = y' ∧ ∀ d ∈ addD L (L.drop k), d ≤ c + c := by
  refine ⟨?_, addD_le _ _ hc fun d hd => hc d (List.mem_of_mem_drop hd)⟩
  rw [addD_val, h, ← hv, valD_drop k L fun d hd => Nat.lt_of_le_of_lt (hc d hd) hk]
theorem ones_sums {y3 c0 c1 c2 c3 c4 c5 c6 c7 : Nat} (h3 : y3 = c0 + 256 * (c1 + 256 * (c2 + 256 * (c3 + 256 * (c4 + 256 * (c5 + 256 * (c6 + 256 * c7)))))))
    (h : c0 ≤ 8 ∧ c1 ≤ 8 ∧ c2 ≤ 8 ∧ c3 ≤ 8 ∧ c4 ≤ 8 ∧ c5 ≤ 8 ∧ c6 ≤ 8 ∧ c7 ≤ 8) {y4 y5 y6 : Nat} (h4 : y4 = y3 + y3 / 2 ^ 8) (h5 : y5 = y4 + y4 / 2 ^ 16) (h6 : y6 = y5 + y5 / 2 ^ 32) :
    y4 < 18446744073709551616 ∧ y5 < 18446744073709551616 ∧ y6 < 9223372036854775808 ∧ y6 % 128 = c0 + c1 + c2 + c3 + c4 + c5 + c6 + c7 := by
  obtain ⟨g0, g1, g2, g3, g4, g5, g6, g7⟩ := h
  have hv8 : ∀ (d : Nat) (r : List Nat), valD 8 (d :: r) = d + 256 * valD 8 r := fun d r => rfl
  have v3 : valD 8 [c0, c1, c2, c3, c4, c5, c6, c7] = y3 := by
    rw [h3, hv8, hv8, hv8, hv8, hv8, hv8, hv8, hv8]
    rfl
  have b3 : ∀ d ∈ [c0, c1, c2, c3, c4, c5, c6, c7], d ≤ 8 := by
    intro d hd
    simp only [List.mem_cons, List.not_mem_nil, or_false] at hd
    rcases hd with rfl | rfl | rfl | rfl | rfl | rfl | rfl | rfl <;> assumption
  obtain ⟨v4, b4⟩ := fold_step (k := 1) v3 b3 (by decide) h4
  obtain ⟨v5, b5⟩ := fold_step (k := 2) v4 b4 (by decide) h5
  obtain ⟨v6, b6⟩ := fold_step (k := 4) v5 b5 (by decide) h6
  have l4 := valD_le (w := 8) _ b4
  have l5 := valD_le (w := 8) _ b5
  have l6 := valD_le (w := 8) _ b6
  rw [v4] at l4
  rw [v5] at l5
  rw [v6] at l6
  refine ⟨Nat.lt_of_le_of_lt l4 (show valD 8 (List.replicate 8 16) < 18446744073709551616 by decide +kernel), Nat.lt_of_le_of_lt l5 (show valD 8 (List.replicate 8 32) < 18446744073709551616 by decide +kernel), Nat.lt_of_le_of_lt l6 (show valD 8 (List.replicate 8 64) < 9223372036854775808 by decide +kernel), ?_⟩
  rw [← v6]
  simp only [addD, List.drop]
  rw [hv8]
  generalize valD 8 _ = r
  omega
theorem Ones_spec (x : Nat) (hx : x < 18446744073709551616) : Does Tryz.prog 115 [.int .u64 x] [] (fun v l => v = .int .i64 ((binD 64 x).sum : Nat) ∧ l = []) := by
  obtain ⟨y1, h1⟩ : ∃ y1, y1 = (x / 2 ^ 1 &&& 6148914691236517205) + (x &&& 6148914691236517205) := ⟨_, rfl⟩
  obtain ⟨y2, h2⟩ : ∃ y2, y2 = (y1 / 2 ^ 2 &&& 3689348814741910323) + (y1 &&& 3689348814741910323) := ⟨_, rfl⟩
  obtain ⟨y3, h3⟩ : ∃ y3, y3 = (y2 / 16 + y2) &&& 1085102592571150095 := ⟨_, rfl⟩
  obtain ⟨k1, k2, c0, c1, c2, c3, c4, c5, c6, c7, e3, hc, hs⟩ := ones_plain hx h1 h2 h3
  obtain ⟨y4, h4⟩ : ∃ y4, y4 = y3 + y3 / 2 ^ 8 := ⟨_, rfl⟩
  obtain ⟨y5, h5⟩ : ∃ y5, y5 = y4 + y4 / 2 ^ 16 := ⟨_, rfl⟩
  obtain ⟨y6, h6⟩ : ∃ y6, y6 = y5 + y5 / 2 ^ 32 := ⟨_, rfl⟩
  obtain ⟨k4, k5, k6, k7⟩ := ones_sums e3 hc h4 h5 h6
  have k3 : y3 < 18446744073709551616 := by omega
  have k8 : y2 < 18446744073709551616 := by omega
  have kx : x / 2 ^ 1 < 18446744073709551616 := Nat.lt_of_le_of_lt (Nat.div_le_self _ _) hx
  have ky : y1 / 2 ^ 2 < 18446744073709551616 := Nat.lt_of_le_of_lt (Nat.div_le_self _ _) k1
  rw [← hs]
  clear hs hc e3
  refine Does.of tiok Tryz.func115 (by kernel_rfl) rfl Tryz.ntmps115 rfl ?_
  intro W fr
  repeat' (first | refine Wka ?_ | intro _ | apply And.intro)
  refine JO_val (OV_shrU (a := x) (n := 1) rfl rfl (by omega)) rfl rfl ?_
  refine JO_val (OV_andU (a := x / 2 ^ 1) (b := 6148914691236517205) rfl rfl kx (by omega)) rfl rfl ?_
  refine JO_v rfl rfl rfl ?_
  refine JO_val (OV_andU (a := x) (b := 6148914691236517205) rfl rfl hx (by omega)) rfl rfl ?_
  refine JO_val (OV_addU (a := x / 2 ^ 1 &&& 6148914691236517205) (b := x &&& 6148914691236517205) rfl rfl (by rw [← h1]; exact k1)) rfl rfl ?_
  rw [← h1]
  repeat' (first | refine Wka ?_ | intro _ | apply And.intro)
  refine JO_val (OV_shrU (a := y1) (n := 2) rfl rfl (by omega)) rfl rfl ?_
  refine JO_val (OV_andU (a := y1 / 2 ^ 2) (b := 3689348814741910323) rfl rfl ky (by omega)) rfl rfl ?_
  refine JO_v rfl rfl rfl ?_
  refine JO_val (OV_andU (a := y1) (b := 3689348814741910323) rfl rfl k1 (by omega)) rfl rfl ?_
  refine JO_val (OV_addU (a := y1 / 2 ^ 2 &&& 3689348814741910323) (b := y1 &&& 3689348814741910323) rfl rfl (by rw [← h2]; exact k8)) rfl rfl ?_
  rw [← h2]
  repeat' (first | refine Wka ?_ | intro _ | apply And.intro)
  refine JO_val (OV_shrU (a := y2) (n := 4) rfl rfl (by omega)) rfl rfl ?_
  refine JO_v rfl rfl rfl ?_
  refine JO_val (OV_addU (a := y2 / 2 ^ 4) (b := y2) rfl rfl (by exact k2)) rfl rfl ?_
  refine JO_val (OV_andU (a := y2 / 2 ^ 4 + y2) (b := 1085102592571150095) rfl rfl (by exact k2) (by omega)) rfl rfl ?_
  rw [show (y2 / 2 ^ 4 + y2) &&& 1085102592571150095 = y3 from h3.symm]
  repeat' (first | refine Wka ?_ | intro _ | apply And.intro)
  refine JO_val (OV_shrU (a := y3) (n := 8) rfl rfl (by omega)) rfl rfl ?_
  refine JO_val (OV_addU (a := y3) (b := y3 / 2 ^ 8) rfl rfl (by rw [← h4]; exact k4)) rfl rfl ?_
  rw [← h4]
  repeat' (first | refine Wka ?_ | intro _ | apply And.intro)
  refine JO_val (OV_shrU (a := y4) (n := 16) rfl rfl (by omega)) rfl rfl ?_
  refine JO_val (OV_addU (a := y4) (b := y4 / 2 ^ 16) rfl rfl (by rw [← h5]; exact k5)) rfl rfl ?_
  rw [← h5]
  repeat' (first | refine Wka ?_ | intro _ | apply And.intro)
  refine JO_val (OV_shrU (a := y5) (n := 32) rfl rfl (by omega)) rfl rfl ?_
  refine JO_val (OV_addU (a := y5) (b := y5 / 2 ^ 32) rfl rfl (by rw [← h6]; omega)) rfl rfl ?_
  rw [← h6]
  repeat' (first | refine Wka ?_ | intro _ | apply And.intro)
  exact At_ret rfl rfl (.tmp rfl .nil) rfl (is := []) rfl ⟨congrArg (Value.int .i64) (by rw [← k7]; exact and127 k6), rfl⟩
theorem below_spec (x r : Nat) (hx : x < 18446744073709551616) (hr : r < 64) : Does Tryz.prog 116 [.int .u64 x, .int .i64 r] [] (fun v l => v = .int .u64 (x % 2 ^ r : Nat) ∧ l = []) := by
  have hp := pow64 hr
  have hp1 := Nat.two_pow_pos r
  refine Does.of tiok Tryz.func116 (by kernel_rfl) rfl Tryz.ntmps116 rfl ?_
  intro W fr
  repeat' (first | refine Wka ?_ | intro _ | apply And.intro)
  refine JO_val (OV_shlU (a := 1) (n := r) rfl rfl (by omega) (by omega)) rfl rfl ?_
  refine JO_val (OV_subU (a := 1 * 2 ^ r) (b := 1) rfl rfl (by omega) (by omega)) rfl rfl ?_
  refine JO_val (OV_andU (a := x) (b := 1 * 2 ^ r - 1) rfl rfl hx (by omega)) rfl rfl ?_
  rw [Nat.one_mul, Nat.and_two_pow_sub_one_eq_mod]
  repeat' (first | refine Wka ?_ | intro _ | apply And.intro)
  exact At_ret rfl rfl (.tmp rfl .nil) rfl (is := []) rfl ⟨rfl, rfl⟩
section ops
variable {pm bm n : Nat} {ms : List Nat}
theorem ahead_spec (i : Nat) (h : MI n ms) (hi : i ≤ n) : Does Tryz.prog 86 [ptr pm 0, .int .i64 i] (marksL pm bm n ms) (fun v l => v = .int .i64 (cntB ms i : Nat) ∧ l = marksL pm bm n ms) := by
  have hml := h.ml
  have hnb := h.nb
  have hdiv : (i : Int) / 64 = ((i / 64 : Nat) : Int) := by omega
  have hmod : (i : Int) % 64 = ((i % 64 : Nat) : Int) := by omega
  have hcw := cntW_le (ms := ms) (i / 64)
  have hkl : i / 64 ≤ ms.length := by omega
  obtain ⟨k, hk⟩ : ∃ k, k = i / 64 := ⟨_, rfl⟩
  rw [← hk] at hdiv hcw hkl
  have hi64 : i = 64 * k + i % 64 := by omega
  have hcq : cntB ms i = cntW ms k + (binD (i % 64) (ms.getD k 0)).sum := by
    have h1 := cntB_words (ms := ms) k (i % 64) (by omega)
    rw [← hi64, cntW_eq] at h1
    exact h1
  have hR : Reads (blk bm (wordsU ms) 221) 1 ms.length (some ⟨bm, 0, none⟩) ms.length (wordsU ms) := Reads.blk (by simp [wordsU])
  refine Does.of tiok Tryz.func86 (by kernel_rfl) rfl Tryz.ntmps86 rfl ?_
  intro W fr
  repeat' (first | refine Wka ?_ | intro _ | apply And.intro)
  rw [hdiv]
  refine JO_val (OV_slice (m := 0) (n := (k : Int)) rfl rfl rfl rfl rfl rfl rfl (by omega) (by omega) (by omega) (p' := some ⟨bm, 0, none⟩) (by split <;> rfl)) rfl rfl ?_
  rw [show ((0 : Int).toNat) = 0 from rfl, Int.toNat_natCast, Nat.sub_zero, Nat.sub_zero]
  repeat' (first | refine Wka ?_ | intro _ | apply And.intro)
  refine J_loop (α := Nat) (fun q => q ≤ k)
    (fun q => [(0, ptr pm 0), (1, .int .i64 i), (5, .int .i64 (cntW ms q : Nat)), (14, .slice (some ⟨bm, 0, none⟩) k ms.length), (15, .int .i64 k), (16, .int .i64 q)])
    (fun q => marksL pm bm n ms) (fun q => k - q) 0 (Nat.zero_le _) Sgt (fun H hl => hl) ?_
  intro q hq
  repeat' (first | refine Wkb ?_ | intro _ | apply And.intro)
  · rename_i hlt
    refine J_block ?_
    obtain ⟨a, ha⟩ : ∃ a, ms[q]? = some a := ⟨ms[q]'(by omega), List.getElem?_eq_getElem _⟩
    have hab := h.wb a (List.mem_of_getElem? ha)
    have haD : ms.getD q 0 = a := by rw [List.getD_eq_getElem?_getD, ha]; rfl
    have hq64 := cntW_le (ms := ms) q
    have hs64 := bin_le 64 a
    repeat' (first | refine Wka ?_ | intro _ | apply And.intro)
    refine JO_val (OV_idx (off := q) rfl rfl rfl rfl (by omega) (by omega) (by omega)) rfl rfl ?_
    refine JO_q (OQ_load (v := .int .u64 (a : Int)) rfl rfl Mmt (by rw [List.getElem?_map, ha]; rfl)) rfl rfl ?_
    repeat' (first | refine Wka ?_ | intro _ | apply And.intro)
    refine JO_l (OL_call [] rfl rfl rfl (Ones_spec a hab) rfl) rfl rfl ?_
    rintro _ _ ⟨_, ⟨rfl, rfl⟩, rfl⟩
    repeat' (first | refine Wka ?_ | intro _ | apply And.intro)
    have hnx : ((cntW ms q : Nat) : Int) + ((binD 64 a).sum : Nat) = ((cntW ms (q + 1) : Nat) : Int) := by
      show _ = ((cntW ms q + (binD 64 (ms.getD q 0)).sum : Nat) : Int)
      rw [haD]
      omega
    rw [hnx]
    exact At_round (q + 1) (by show k - (q + 1) < k - q; omega) (by show q + 1 ≤ k; omega) Sgt (fun H hl => hl)
  · rename_i _ hpos
    obtain rfl : q = k := by omega
    have hql : q < ms.length := by omega
    obtain ⟨a, ha⟩ : ∃ a, ms[q]? = some a := ⟨ms[q]'hql, List.getElem?_eq_getElem _⟩
    have hab := h.wb a (List.mem_of_getElem? ha)
    have haD : ms.getD q 0 = a := by rw [List.getD_eq_getElem?_getD, ha]; rfl
    rw [haD] at hcq
    have hs64 := bin_le (i % 64) a
    have hbm := bin_mod 64 (i % 64) a (by omega)
    have hlt2 : a % 2 ^ (i % 64) < 18446744073709551616 := Nat.lt_of_le_of_lt (Nat.mod_le _ _) hab
    repeat' (first | refine Wka ?_ | intro _ | apply And.intro)
    rw [hdiv]
    refine JO_val (OV_idx (off := q) rfl rfl rfl rfl (by omega) (by omega) (by omega)) rfl rfl ?_
    refine JO_q (OQ_load (v := .int .u64 (a : Int)) rfl rfl Mmt (by rw [List.getElem?_map, ha]; rfl)) rfl rfl ?_
    repeat' (first | refine Wka ?_ | intro _ | apply And.intro)
    rw [hmod]
    refine JO_l (OL_call [] rfl rfl rfl (below_spec a (i % 64) hab (by omega)) rfl) rfl rfl ?_
    rintro _ _ ⟨_, ⟨rfl, rfl⟩, rfl⟩
    refine JO_l (OL_call [] rfl rfl rfl (Ones_spec (a % 2 ^ (i % 64)) hlt2) rfl) rfl rfl ?_
    rintro _ _ ⟨_, ⟨rfl, rfl⟩, rfl⟩
    rw [hbm]
    repeat' (first | refine Wka ?_ | intro _ | apply And.intro)
    refine At_ret rfl rfl (.tmp rfl .nil) rfl (is := [0, 0]) rfl ⟨congrArg (Value.int .i64) ?_, rfl⟩
    rw [hcq]
    omega
  · obtain rfl : q = k := by omega
    have h0 : i % 64 = 0 := by omega
    rw [h0] at hcq
    exact At_ret rfl rfl (.tmp rfl .nil) rfl (is := [0, 0]) rfl ⟨by rw [hcq]; rfl, rfl⟩
theorem Count_spec (i : Nat) (h : MI n ms) (hi : i ≤ n) : Does Tryz.prog 43 [ptr pm 0, .int .i64 0, .int .i64 i] (marksL pm bm n ms) (fun v l => v = .tuple #[.int .i64 (cntB ms i : Nat), .int .i64 0] ∧ l = marksL pm bm n ms) := by
  have hnb := h.nb
  have hcl := cntB_le (ms := ms) i
  refine Does.of tiok Tryz.func43 (by kernel_rfl) rfl Tryz.ntmps43 rfl ?_
  intro W fr
  repeat' (first | refine Wka ?_ | intro _ | apply And.intro)
  refine JO_l (OL_call [0, 0] rfl rfl rfl (ahead_spec i h hi) rfl) rfl rfl ?_; rintro _ _ ⟨_, ⟨rfl, rfl⟩, rfl⟩
  repeat' (first | refine Wka ?_ | intro _ | apply And.intro)
  refine JO_l (OL_call [0, 0] rfl rfl rfl (ahead_spec 0 h (Nat.zero_le _)) rfl) rfl rfl ?_; rintro _ _ ⟨_, ⟨rfl, rfl⟩, rfl⟩
  rw [show cntB ms 0 = 0 from rfl]
  repeat' (first | refine Wka ?_ | intro _ | apply And.intro)
  refine At_ret rfl rfl (.tmp rfl (.tmp rfl .nil)) rfl (is := [0, 0]) rfl ⟨?_, rfl⟩
  rw [Int.natCast_zero, Int.sub_zero]; rfl
end ops
open Go.Sep
def imgO (ms : List Nat) (os : List RO) (j : Nat) (o : RO) : RO := ⟨goI ms os j, o.k, o.p, fwL ms os o, none, 0⟩
section img
variable {n T : Nat} {ws : List Int} {st : List Bool} {os : List RO} {ms : List Nat}
theorem img_ch (hc : Ch ws 0 os T) : ∃ os2, Ch (NWI T ws ms os) 0 os2 (szL (lvs ms os)) ∧ (∀ (j : Nat) (o : RO), os[j]? = some o → lvB ms o = true → ∃ j2 : Nat, os2[j2]? = some (imgO ms os j o)) ∧
    (∀ (j2 : Nat) (o2 : RO), os2[j2]? = some o2 → ∃ (j : Nat) (o : RO), os[j]? = some o ∧ lvB ms o = true ∧ o2 = imgO ms os j o) ∧ os2.length = (lvs ms os).length := by
  have : ∀ q, q ≤ os.length → ∃ os2, Ch (NWI T ws ms os) 0 os2 (goI ms os q) ∧ (∀ (j : Nat) (o : RO), j < q → os[j]? = some o → lvB ms o = true → ∃ j2 : Nat, os2[j2]? = some (imgO ms os j o)) ∧
      (∀ (j2 : Nat) (o2 : RO), os2[j2]? = some o2 → ∃ (j : Nat) (o : RO), os[j]? = some o ∧ lvB ms o = true ∧ o2 = imgO ms os j o) ∧ os2.length = (lvs ms (os.take q)).length := by
    intro q
    induction q with
    | zero => exact fun _ => ⟨[], rfl, fun j o h => absurd h (Nat.not_lt_zero _), fun j2 o2 h => by simp at h, rfl⟩
    | succ q ih =>
      intro hq
      obtain ⟨os2, h1, h2, h3, h4⟩ := ih (by omega)
      obtain ⟨o, ho⟩ : ∃ o, os[q]? = some o := ⟨os[q]'(by omega), List.getElem?_eq_getElem _⟩
      have hn := lvs_next (ms := ms) ho
      cases hl : lvB ms o with
      | true =>
        refine ⟨_, slide_step hc h1 ho hl none 0, fun j o' hj ho' hl' => ?_, fun j2 o2 h => ?_, ?_⟩
        · rcases Nat.lt_or_ge j q with e | e
          · obtain ⟨j2, hj2⟩ := h2 j o' e ho' hl'
            exact ⟨j2, by rw [List.getElem?_append_left (List.getElem?_eq_some_iff.1 hj2).1]; exact hj2⟩
          · obtain rfl : j = q := by omega
            rw [ho] at ho'; injection ho' with ho'; subst ho'
            exact ⟨os2.length, by simp [imgO]⟩
        · rcases Nat.lt_or_ge j2 os2.length with e | e
          · rw [List.getElem?_append_left e] at h
            exact h3 j2 o2 h
          · rw [List.getElem?_append_right e] at h
            have he : j2 - os2.length = 0 := by
              have := (List.getElem?_eq_some_iff.1 h).1
              simp at this
              omega
            rw [he] at h
            simp at h
            exact ⟨q, o, ho, hl, h.symm⟩
        · rw [hn, hl]
          simp [h4]
      | false =>
        refine ⟨os2, by rw [goI_dead ho hl]; exact h1, fun j o' hj ho' hl' => ?_, h3, ?_⟩
        · rcases Nat.lt_or_ge j q with e | e
          · exact h2 j o' e ho' hl'
          · obtain rfl : j = q := by omega
            rw [ho] at ho'; injection ho' with ho'; subst ho'
            rw [hl] at hl'; cases hl'
        · rw [hn, hl]
          simp [h4]
  obtain ⟨os2, h1, h2, h3, h4⟩ := this os.length (Nat.le_refl _)
  rw [goI_all] at h1
  rw [List.take_length] at h4
  exact ⟨os2, h1, fun j o ho hl => h2 j o (List.getElem?_eq_some_iff.1 ho).1 ho hl, h3, h4⟩
theorem second {S2 : Nat} {V2 : List Int} {st2 : List Bool} {os2 : List RO} {rts out : List Int} (h : HT n T ws st) (hc : Ch ws 0 os T) (hr : RefsOk ws st) (hrt : ∀ z ∈ rts, z = 0 ∨ ∃ (j : Nat) (o : RO), os[j]? = some o ∧ z = (o.i : Int) + 1 ∧ o.k ≠ 15) (hRM : RMk os rts ms)
    (h2 : HT n S2 V2 st2) (hc2 : Ch V2 0 os2 S2) (hi : ∀ (j : Nat) (o : RO), os[j]? = some o → lvB ms o = true → ∃ j2 : Nat, os2[j2]? = some (imgO ms os j o)) (hi2 : ∀ (j2 : Nat) (o2 : RO), os2[j2]? = some o2 → ∃ (j : Nat) (o : RO), os[j]? = some o ∧ lvB ms o = true ∧ o2 = imgO ms os j o)
    (hol : out.length = rts.length) (hfw : ∀ (q : Nat) (z z' : Int), rts[q]? = some z → out[q]? = some z' → fwdW ms os z z') :
    RefsOk V2 st2 ∧ (∀ z ∈ out, z = 0 ∨ ∃ (j : Nat) (o : RO), os2[j]? = some o ∧ z = (o.i : Int) + 1 ∧ o.k ≠ 15) ∧ ∀ ms2, RMk os2 out ms2 → ∀ o ∈ os2, lvB ms2 o = true := by
  have hk15 : ∀ o : RO, lvB ms o = true → o.k ≠ 15 := fun o hl => by
    unfold lvB at hl
    rw [Bool.and_eq_true] at hl
    exact of_decide_eq_true hl.1
  have hright := hRM.right h hc hr
  refine ⟨(refs_iff h2 hc2).2 fun o2 ho2 => ?_, fun z hz => ?_, fun ms2 hRM2 o2 ho2 => ?_⟩
  · obtain ⟨j2, hj2⟩ := List.getElem?_of_mem ho2
    obtain ⟨j, o, hj, hl, rfl⟩ := hi2 j2 o2 hj2
    intro k x hk hx
    have hx : (fwL ms os o)[k]? = some x := hx
    have hk : (k : Int) < o.p := hk
    have hkl : k < o.ws.length := by
      have := (List.getElem?_eq_some_iff.1 hx).1
      rw [fwL_len] at this
      exact this
    obtain ⟨y, hy⟩ : ∃ y, o.ws[k]? = some y := ⟨o.ws[k]'hkl, List.getElem?_eq_getElem _⟩
    rw [fwL_at hy, if_pos hk] at hx
    injection hx with hx
    subst hx
    rcases hright j o hj hl k y hk hy with rfl | ⟨j', o', hj', hl', he⟩
    · rw [fwI_zero]
      exact decide_eq_true (.inl rfl)
    · obtain rfl : y = (o'.i : Int) + 1 := by omega
      rw [fwI_obj hc hj']
      obtain ⟨q, hq⟩ := hi j' o' hj' hl'
      have hst : (0 = S2 ∨ st2[0]? = some true) := h2.zero.imp Eq.symm id
      have hs := Ch.start h2 hc2 hst _ (List.mem_of_getElem? hq)
      have hs : st2[goI ms os j']? = some true := hs
      have hat := (hc2.at hq).2
      refine decide_eq_true (.inr ⟨by omega, ?_, ?_⟩)
      · rw [show ((goI ms os j' : Int) + 1 - 1).toNat = goI ms os j' by omega]
        exact hs
      · rw [show ((goI ms os j' : Int) + 1 - 1).toNat = goI ms os j' by omega, List.getD_eq_getElem?_getD]
        have h3 := hat.2.2.1
        have h3 : V2[goI ms os j']? = some _ := h3
        rw [h3, Option.getD_some, (packI_un hat.2.1).2.2.1]
        exact hk15 o' hl'
  · obtain ⟨q, hq⟩ := List.getElem?_of_mem hz
    have hql := (List.getElem?_eq_some_iff.1 hq).1
    obtain ⟨z0, hz0⟩ : ∃ z0, rts[q]? = some z0 := ⟨rts[q]'(by omega), List.getElem?_eq_getElem _⟩
    rcases hfw q z0 z hz0 hq with ⟨_, e⟩ | ⟨j, o, hj, hl, _, e⟩
    · exact .inl e
    · obtain ⟨j2, hj2⟩ := hi j o hj hl
      exact .inr ⟨j2, _, hj2, e, hk15 o hl⟩
  · obtain ⟨j2, hj2⟩ := List.getElem?_of_mem ho2
    obtain ⟨j, o, hj, hl, rfl⟩ := hi2 j2 o2 hj2
    rw [hRM2 j2 _ hj2]
    have hR := (hRM j o hj).1 hl
    clear hRM2 hl ho2
    revert o j2
    induction hR with
    | root hz hj he =>
      rename_i z j o
      intro j2 o1 hj1 hj2
      rw [hj] at hj1; injection hj1 with hj1; subst hj1
      obtain ⟨q, hq⟩ := List.getElem?_of_mem hz
      have hql := (List.getElem?_eq_some_iff.1 hq).1
      obtain ⟨z', hz'⟩ : ∃ z', out[q]? = some z' := ⟨out[q]'(by omega), List.getElem?_eq_getElem _⟩
      rcases hfw q z z' hq hz' with ⟨e0, _⟩ | ⟨j', o', hj', _, e0, e1⟩
      · omega
      · have := Ch.one hc hj' hj (by omega)
        subst this
        exact .root (List.mem_of_getElem? hz') hj2 e1
    | ref hRi hi0 hk hy hj he ih =>
      rename_i i k j o o' y
      intro j2 o1 hj1 hj2
      rw [hj] at hj1; injection hj1 with hj1; subst hj1
      have hli := (hRM i o hi0).2 hRi
      obtain ⟨i2, hi2'⟩ := hi i o hi0 hli
      have := ih i2 o hi0 hi2'
      have hw : (fwL ms os o)[k]? = some (fwI ms os y) := by rw [fwL_at hy, if_pos hk]
      exact .ref this hi2' hk hw hj2 (by rw [he, fwI_obj hc hj]; rfl)
end img
end Go.Proofs.YtfmkjbmogfhpbaaGreatDoor
set_option maxRecDepth 8000
namespace Go.Proofs.YtfmkjbmogfhpbaaGreatDoor.Ph
open Go.Sep Mk
section ops
variable {E : EV} {V : PV} {S : SV} {ms : List Nat} {r : RSt} {tv sv steps : Int}
theorem ZOk.cnt (hP : POk E V) (hz : ZOk E S ms r) : cntB ms E.n = (lvs ms E.os).length := by
  have htn := hP.e.h.tn
  have h1 : cntB ms E.T = cntB ms 0 + (lvs ms E.os).length := cntB_live hP.e.hc fun x _ hx => by
    constructor
    · intro hb
      obtain ⟨j, o, hj, he, hR⟩ := hz.rd x hb
      exact ⟨o, List.mem_of_getElem? hj, he, (hz.rm j o hj).2 hR⟩
    · rintro ⟨o, ho, rfl, hl⟩
      unfold lvB at hl
      rw [Bool.and_eq_true] at hl
      exact hl.2
  have h2 : cntB ms (E.T + (E.n - E.T)) = cntB ms E.T := cntB_none _ fun x h3 h4 => by
    rw [Bool.eq_false_iff]
    intro hb
    obtain ⟨j, o, hj, he, hR⟩ := hz.rd x hb
    have := hP.e.hc.o_lt hj
    omega
  rw [show E.T + (E.n - E.T) = E.n by omega] at h2
  rw [h2, h1]
  show 0 + _ = _
  omega
theorem Marked_spec (hP : POk E V) (hz : ZOk E S ms r) : Does Tryz.prog 17 [ptr V.pc 0] (colZ E V S ms r tv sv steps)
    (fun v l => v = .int .i64 ((lvs ms E.os).length : Nat) ∧ l = colZ E V S ms r tv sv steps) := by
  rw [← hz.cnt hP]
  refine Does.of tiok Tryz.func17 (by kernel_rfl) rfl Tryz.ntmps17 rfl ?_
  intro W fr
  repeat' (first | refine Wka ?_ | intro _ | apply And.intro)
  refine J_drawk [colB E V (ptr S.ps 0) steps] (fun H hl => (hl.perm (picks_perm (is := [0]) rfl)).left) [0, 0, 0, 5, 2, 0, 0, 0, 5, 2, 2, 0, 0, 0, 0, 0] [0, 1, 2, 3, 5, 6, 7, 8, 4, 9, 10, 11, 12, 13, 14, 15] (by kernel_rfl) (by kernel_rfl) ?_
  repeat' (first | refine Wke ?_ | intro _ | apply And.intro)
  refine JX_lk rfl rfl (OL_call [2] rfl rfl rfl Marks_m rfl) rfl rfl ?_ ?_
  · rintro _ _ ⟨_, ⟨rfl, rfl⟩, rfl⟩ H hl
    exact (hl.perm (picks_perm (is := [1]) rfl)).left
  rintro _ _ ⟨_, ⟨rfl, rfl⟩, rfl⟩ _
  repeat' (first | refine Wke ?_ | intro _ | apply And.intro)
  refine JX_lk rfl rfl (OL_call [8, 8, 8] rfl rfl rfl heapSize rfl) rfl rfl ?_ ?_
  · rintro _ _ ⟨_, ⟨rfl, rfl⟩, rfl⟩ H hl
    exact (hl.perm (picks_perm (is := [4]) rfl)).left
  rintro _ _ ⟨_, ⟨rfl, rfl⟩, rfl⟩ _
  repeat' (first | refine Wke ?_ | intro _ | apply And.intro)
  refine JX_lk rfl rfl (OL_call [12, 12] rfl rfl rfl (Count_spec E.n hz.sf.hM (Nat.le_refl _)) rfl) rfl rfl ?_ ?_
  · rintro _ _ ⟨_, ⟨rfl, rfl⟩, rfl⟩ H hl
    exact (hl.perm (picks_perm (is := [6]) rfl)).left
  rintro _ _ ⟨_, ⟨rfl, rfl⟩, rfl⟩ _
  repeat' (first | refine Wke ?_ | intro _ | apply And.intro)
  repeat' (first | refine Wka ?_ | intro _ | apply And.intro)
  exact At_ret rfl rfl (.tmp rfl .nil) rfl (is := [6, 6, 5, 5, 5, 5, 5, 5, 2, 2, 2, 2, 0, 0, 0, 0, 0]) rfl ⟨rfl, rfl⟩
end ops
theorem CNew_two {p bw bs n T m : Nat} {ws : List Int} {st : List Bool} {os : List RO} {la : Option Addr} {lc : Nat} {rts : List Int} {Rl : HP} {W rm K part : Nat} {reg : Int} (hm : rts.length = m) (h : HT n T ws st) (hc : Ch ws 0 os T) (hr : RefsOk ws st) (h1 : 1 ≤ n) (h2 : n ≤ 5000)
    (hz : ∀ z ∈ rts, z = 0 ∨ ∃ (j : Nat) (o : RO), os[j]? = some o ∧ z = (o.i : Int) + 1 ∧ o.k ≠ 15) (hl : m ≤ 14) (hRl : Reads Rl 1 m la lc (intsV rts)) (hW : 1 ≤ W ∧ W ≤ 7) (hrm : 2 ≤ rm ∧ rm ≤ 1024) (hK : 1 ≤ K ∧ K ≤ 4095) (hp : 1 ≤ part ∧ part ≤ 64) (hreg : In64 reg) :
    Does Tryz.prog 10 [ptr p 0, .slice la m lc, .agg #[.int .i64 W, .int .i64 rm, .int .i64 K, .int .i64 part, .int .i64 reg]] (heapL p bw bs n ws T st ++ [Rl])
    (fun v l => ∃ (E : EV) (V : PV), POk E V ∧ KOk E (ms0 E.n E.W E.rm E.rS) ∧ p = E.p ∧ n = E.n ∧ T = E.T ∧ ws = E.ws ∧ os = E.os ∧ rts = E.rts ∧ W = E.W ∧
      v = .tuple #[ptr V.pc 0, .int .i64 0] ∧ l = Rl :: colM E V (ms0 E.n E.W E.rm E.rS) 0) := by
  subst hm
  refine (CNew_spec (reg := reg) h hc hr h1 h2 hz hl hRl hW hrm hK hp hreg).mono ?_
  rintro v l ⟨E, V, hP, hK, e1, e2, e3, e4, e5, e6, e7, e8, e9, e10, e11, rfl, rfl⟩
  exact ⟨E, V, hP, hK, e1, e4, e5, e6, e8, e9, e10, rfl, rfl⟩
theorem twice {E : EV} {V : PV} {S : SV} {ms : List Nat} {r : RSt} {E2 : EV} {V2 : PV} {S2 : SV} {ms2 : List Nat} {r2 : RSt} {out2 : List Int} (hP : POk E V) (hz : ZOk E S ms r) (hP2 : POk E2 V2) (hz2 : ZOk E2 S2 ms2 r2) (ha : ∀ o ∈ E2.os, lvB ms2 o = true) (hlen : E2.os.length = (lvs ms E.os).length)
    (hol : out2.length = E2.rts.length) (hfw : ∀ (q : Nat) (z z' : Int), E2.rts[q]? = some z → out2[q]? = some z' → fwdW ms2 E2.os z z') :
    NWI E2.T E2.ws ms2 E2.os = E2.ws ∧ szL (lvs ms2 E2.os) = E2.T ∧ (lvs ms2 E2.os).length = (lvs ms E.os).length ∧ out2 = E2.rts := by
  refine ⟨NWI_whole hP2.e.h hP2.e.hc hP2.e.hr ha, szL_all hP2.e.hc ha, by rw [lvs_all ha]; exact hlen, ?_⟩
  apply List.ext_getElem?
  intro k
  cases hk : E2.rts[k]? with
  | none =>
    rw [List.getElem?_eq_none_iff] at hk
    rw [List.getElem?_eq_none (by omega)]
  | some z =>
    have hkl := (List.getElem?_eq_some_iff.1 hk).1
    obtain ⟨z', hz'⟩ : ∃ z', out2[k]? = some z' := ⟨out2[k]'(by omega), List.getElem?_eq_getElem _⟩
    rw [hz', fwI_of hP2.e.hc (hfw k z z' hk hz')]
    congr 1
    rcases hP2.e.rt z (List.mem_of_getElem? hk) with rfl | ⟨j, o, hj, rfl, _⟩
    · exact fwI_zero
    · rw [fwI_obj hP2.e.hc hj, goI_whole hP2.e.hc ha hj]
end Go.Proofs.YtfmkjbmogfhpbaaGreatDoor.Ph
set_option maxRecDepth 8000
namespace Go.Proofs.YtfmkjbmogfhpbaaGreatDoor
open Go.Sep Mk Ph
set_option maxHeartbeats 64000000 in
theorem TopAgain_law {W0 : World} (hG0 : Reads (Low W0) 1 13 (some ⟨0, 0, none⟩) 13 manyV) {g : GG} (hG : GOk (Low W0) g) {x0 x1 x2 x3 x4 x5 x6 x7 x8 x9 : Int} (hX0 : NmOk [.int .u8 x0, .int .u8 x1, .int .u8 x2, .int .u8 x3, .int .u8 x4, .int .u8 x5, .int .u8 x6, .int .u8 x7, .int .u8 x8, .int .u8 x9] 0) (hX1 : NmOk [.int .u8 x0, .int .u8 x1, .int .u8 x2, .int .u8 x3, .int .u8 x4, .int .u8 x5, .int .u8 x6, .int .u8 x7, .int .u8 x8, .int .u8 x9] 1)
    {ai : Option Addr} {ci : Nat} {ys : List (Int × Int)} (hYi : PkOk (Low W0) ai ci ys) :
    Does Tryz.prog 4 [gV g, .agg #[.int .u8 x0, .int .u8 x1, .int .u8 x2, .int .u8 x3, .int .u8 x4, .int .u8 x5, .int .u8 x6, .int .u8 x7, .int .u8 x8, .int .u8 x9], .slice ai ys.length ci] [Low W0] (fun v l => v = .bool true ∧ l = [Low W0]) := by
  have hA : Does Tryz.prog 5 [] [Low W0] _ := awake_top hG0
  have hyln := hYi.ln
  refine Does.of tiok Tryz.func4 (by kernel_rfl) rfl Tryz.ntmps4 rfl ?_
  intro W fr
  repeat' (first | refine Wka ?_ | intro _ | apply And.intro)
  refine JO_l (OL_call [2] rfl rfl rfl (hA) rfl) rfl rfl ?_; rintro _ _ ⟨_, ⟨rfl, rfl⟩, rfl⟩
  repeat' (first | refine Wka ?_ | intro _ | apply And.intro)
  refine JO_l (OL_call [0] rfl rfl rfl (Few_spec hG) rfl) rfl rfl ?_; rintro _ _ ⟨_, ⟨rfl, rfl⟩, rfl⟩
  cases hf : fewB g with
  | false =>
    repeat' (first | refine Wka ?_ | intro _ | apply And.intro)
    refine JO_l (OL_call [0] rfl rfl rfl (hA) rfl) rfl rfl ?_; rintro _ _ ⟨_, ⟨rfl, rfl⟩, rfl⟩
    repeat' (first | refine Wka ?_ | intro _ | apply And.intro)
    exact At_ret rfl rfl (.tmp rfl .nil) rfl (is := [0]) rfl ⟨rfl, rfl⟩
  | true =>
  repeat' (first | refine Wka ?_ | intro _ | apply And.intro)
  · refine JO_l (OL_call [0] rfl rfl rfl (hA) rfl) rfl rfl ?_; rintro _ _ ⟨_, ⟨rfl, rfl⟩, rfl⟩
    repeat' (first | refine Wka ?_ | intro _ | apply And.intro)
    exact At_ret rfl rfl (.tmp rfl .nil) rfl (is := [0]) rfl ⟨rfl, rfl⟩
  rename_i hy0
  obtain ⟨hn14, hr14, he10, hnd224⟩ := few_need hG hf
  have hB3 : Does Tryz.prog 7 [gV g, .int .i64 3] [Low W0] _ := Build_spec hG hf 3 (by omega)
  refine JO_l (OL_call [0] rfl rfl rfl (hB3) rfl) rfl rfl ?_; rintro _ _ ⟨_, ⟨p, bw, bs, n, T, ws, st, a, cap, os, ra, rc, hB, hn, hT, rfl, rfl⟩, rfl⟩
  clear hB3
  have htn := hB.ht.tn
  have hnb := hB.ht.nb
  have hlen := hB.ch.len
  obtain ⟨rts, hrts⟩ : ∃ rts, rts = g.rs.map (plcI (layG g.ns).at_) := ⟨_, rfl⟩
  have hrl : g.rs.length = rts.length := by rw [hrts, List.length_map]
  rw [← hrts, hrl]
  have hroot : ∀ z ∈ rts, z = 0 ∨ ∃ (j : Nat) (o : RO), os[j]? = some o ∧ z = (o.i : Int) + 1 ∧ o.k ≠ 15 := by
    intro z hz
    rw [hrts] at hz
    obtain ⟨y, _, rfl⟩ := List.mem_map.1 hz
    exact hB.root y
  have hrtl : rts.length ≤ 14 := by omega
  repeat' (first | refine Wka ?_ | intro _ | apply And.intro)
  rename_i b3 b4 b9 _
  refine JO_fact _ (fun w hs => rowz_len (T := 3) (sz := 1) (m := rts.length) (cap := rc) (a := ra) (cs := intsV rts) hs (by simp)) ?_
  rintro ⟨hl, hnn, hcc⟩
  have hRo : Reads (rowz 3 1 ra rts.length rc (intsV rts)) 1 rts.length ra rc (intsV rts) := Reads.rowz hl hnn
  obtain ⟨X, hX⟩ : ∃ X : List Value, X = [.int .u8 x0, .int .u8 x1, .int .u8 x2, .int .u8 x3, .int .u8 x4, .int .u8 x5, .int .u8 x6, .int .u8 x7, .int .u8 x8, .int .u8 x9] := ⟨_, rfl⟩
  rw [← hX] at hX0 hX1 ⊢
  have hXl : X.length = 10 := by rw [hX]; rfl
  have hRX : Reads (blk b4 X 27) 1 10 (some ⟨b4, 0, none⟩) 10 X := Reads.blk (by rw [hXl])
  clear hX
  obtain ⟨z0, z1, z2, z3, z4, k0, k1, k2, k3, k4, hXt⟩ := hX0
  refine JO_val (OV_idxA (off := 0 + 0 * 5) rfl rfl rfl rfl (by omega) (by omega) (by simp)) rfl rfl ?_
  refine JO_q (OQ_readA hRX Mmt rfl rfl rfl (by omega) hXt) rfl rfl ?_
  repeat' (first | refine Wka ?_ | intro _ | apply And.intro)
  refine JO_l (OL_call [] rfl rfl rfl (Numbers15_spec k0 k1 k2 k3 k4) rfl) rfl rfl ?_
  rintro _ _ ⟨_, ⟨rfl, rfl⟩, rfl⟩
  obtain ⟨wk, hwk, hwk2⟩ : ∃ wk : Nat, 1 + z0 % 7 = (wk : Int) ∧ 1 ≤ wk ∧ wk ≤ 7 := ⟨(1 + z0 % 7).toNat, by omega, by omega⟩
  obtain ⟨rm, hrm, hrm2⟩ : ∃ rm : Nat, 2 + z1 % 6 = (rm : Int) ∧ 2 ≤ rm ∧ rm ≤ 1024 := ⟨(2 + z1 % 6).toNat, by omega, by omega⟩
  obtain ⟨kk, hkk, hkk2⟩ : ∃ kk : Nat, 1 + z2 % 5 = (kk : Int) ∧ 1 ≤ kk ∧ kk ≤ 4095 := ⟨(1 + z2 % 5).toNat, by omega, by omega⟩
  obtain ⟨pt, hpt, hpt2⟩ : ∃ pt : Nat, 1 + z3 % 5 = (pt : Int) ∧ 1 ≤ pt ∧ pt ≤ 64 := ⟨(1 + z3 % 5).toNat, by omega, by omega⟩
  have hrg : In64 (2 + z4 % 20) := by constructor <;> omega
  generalize 2 + z4 % 20 = rg at hrg ⊢
  rw [hwk, hrm, hkk, hpt]
  clear hwk hrm hkk hpt k0 k1 k2 k3 k4 hXt
  repeat' (first | refine Wka ?_ | intro _ | apply And.intro)
  refine JO_l (OL_call [1, 1, 1, 3] rfl rfl rfl (CNew_spec (reg := rg) hB.ht hB.ch hB.ro (by omega) (by omega) hroot hrtl hRo hwk2 hrm2 hkk2 hpt2 hrg) rfl) rfl rfl ?_
  rintro _ _ ⟨_, ⟨E, V, hPo, hK, rfl, rfl, rfl, rfl, rfl, rfl, rfl, rfl, rfl, rfl, _, rfl, rfl⟩, rfl⟩
  have hPi := PIn.new hK
  have hme := hPi.meas hPo.e
  have hM0 := M0_le hPo.e.h.tn (by omega)
  repeat' (first | refine Wka ?_ | intro _ | apply And.intro)
  refine JO_l (OL_call [1, 1, 1, 1, 1, 1, 1, 1, 1, 1, 1, 1, 1, 1, 1, 1, 1, 1, 1, 1] rfl rfl rfl (CRun_spec hPo hPi.1 hme (by omega)) rfl) rfl rfl ?_
  rintro _ _ ⟨_, ⟨S, ms, r, tv, sv, stn, kr, hZ, hZo, _, _, rfl, rfl⟩, rfl⟩
  clear hme hM0 hPi hK
  repeat' (first | refine Wka ?_ | intro _ | apply And.intro)
  refine JO_l (OL_callP rfl rfl rfl (Result_spec hPo hZ hZo) (.refl _)) rfl rfl ?_
  rintro _ _ ⟨_, ⟨p2, bw2, bs2, st2, out, ao, co, hHT, hol, hfw, rfl, rfl⟩, rfl⟩
  repeat' (first | refine Wka ?_ | intro _ | apply And.intro)
  obtain ⟨y0, y1, y2, y3, y4, k0, k1, k2, k3, k4, hXt⟩ := hX1
  refine JO_val (OV_idxA (off := 0 + 1 * 5) rfl rfl rfl rfl (by omega) (by omega) (by simp)) rfl rfl ?_
  refine JO_q (OQ_readA hRX Mmt rfl rfl rfl (by omega) hXt) rfl rfl ?_
  repeat' (first | refine Wka ?_ | intro _ | apply And.intro)
  refine JO_l (OL_call [] rfl rfl rfl (Numbers15_spec k0 k1 k2 k3 k4) rfl) rfl rfl ?_
  rintro _ _ ⟨_, ⟨rfl, rfl⟩, rfl⟩
  obtain ⟨wk, hwk, hwk2⟩ : ∃ wk : Nat, 1 + y0 % 7 = (wk : Int) ∧ 1 ≤ wk ∧ wk ≤ 7 := ⟨(1 + y0 % 7).toNat, by omega, by omega⟩
  obtain ⟨rm2, hrm, hrm2⟩ : ∃ rm : Nat, 2 + y1 % 6 = (rm : Int) ∧ 2 ≤ rm ∧ rm ≤ 1024 := ⟨(2 + y1 % 6).toNat, by omega, by omega⟩
  obtain ⟨kk2, hkk, hkk2⟩ : ∃ kk : Nat, 1 + y2 % 5 = (kk : Int) ∧ 1 ≤ kk ∧ kk ≤ 4095 := ⟨(1 + y2 % 5).toNat, by omega, by omega⟩
  obtain ⟨pt2, hpt, hpt2⟩ : ∃ pt : Nat, 1 + y3 % 5 = (pt : Int) ∧ 1 ≤ pt ∧ pt ≤ 64 := ⟨(1 + y3 % 5).toNat, by omega, by omega⟩
  have hrg : In64 (2 + y4 % 20) := by constructor <;> omega
  generalize 2 + y4 % 20 = rg2 at hrg ⊢
  rw [hwk, hrm, hkk, hpt]
  clear hwk hrm hkk hpt k0 k1 k2 k3 k4 hXt
  repeat' (first | refine Wka ?_ | intro _ | apply And.intro)
  rename_i b15 _
  refine JO_fact _ (fun w hs => row_len (T := 3) (sz := 1) (m := E.rts.length) (cap := co) (a := ao) (cs := intsV out) hs (by simp)) ?_
  rintro ⟨hlo, hno, hco⟩
  have hRa : Reads (row 3 1 ao E.rts.length co (intsV out)) 1 E.rts.length ao co (intsV out) := Reads.row hlo hno
  obtain ⟨os2, hc2, hi1, hi2, hl2⟩ := img_ch (ms := ms) hPo.e.hc
  obtain ⟨hr2, hrt2, hall⟩ := second hPo.e.h hPo.e.hc hPo.e.hr hPo.e.rt hZ.rm hHT hc2 hi1 hi2 hol hfw
  refine JO_l (OL_call [1, 1, 1, 1] rfl rfl rfl (CNew_two (reg := rg2) hol hHT hc2 hr2 (by omega) (by omega) hrt2 hrtl hRa hwk2 hrm2 hkk2 hpt2 hrg) rfl) rfl rfl ?_
  rintro _ _ ⟨_, ⟨E2, V2, hPo2, hK2, rfl, hEn, hET, hEw, rfl, rfl, rfl, rfl, rfl⟩, rfl⟩
  repeat' (first | refine Wka ?_ | intro _ | apply And.intro)
  obtain ⟨Z, hZe⟩ : ∃ Z, Z = colZ E V S ms r tv sv stn := ⟨_, rfl⟩
  let B15 : HP := blk b15 [.int .i64 E2.W, .int .i64 rm2, .int .i64 kk2, .int .i64 pt2, .int .i64 rg2] 42
  let RS : List HP := [B15, row 3 1 ao E.rts.length co (intsV E2.rts), Low W0] ++ Z
  have hEW1 := hPo2.e.W1
  have hEW2 := hPo2.e.W2
  refine J_loop (α := Nat × Nat × CS) (fun x => x.1 ≤ ys.length ∧ x.2.1 ≤ x.1 ∧ PIn E2 x.2.1 x.2.2)
    (fun x => [(10, ptr V.pc 0), (12, ptr E2.p 0), (13, .slice ao E.rts.length co), (15, ptr b15 0), (16, ptr V2.pc 0), (89, .slice ai ys.length ci), (90, .int .i64 ys.length), (91, .int .i64 x.1)])
    (fun x => RS ++ colS E2 V2 x.2.1 x.2.2) (fun x => ys.length - x.1) (0, 0, .mk (ms0 E2.n E2.W E2.rm E2.rS)) ⟨Nat.zero_le _, Nat.le_refl _, PIn.new hK2⟩ Sgt
    (fun H hl => by
      show Stars ([B15, row 3 1 ao E.rts.length co (intsV E2.rts), Low W0] ++ Z ++ colS E2 V2 ((0 : Nat) : Int) (.mk (ms0 E2.n E2.W E2.rm E2.rS))) H
      rw [hZe]
      exact hl.pick (is := [21, 0, 41, 20, 20, 20, 20, 20, 20, 20, 20, 20, 20, 20, 20, 20, 20, 20, 20, 20, 0, 0, 0, 0, 0, 0, 0, 0, 0, 0, 0, 0, 0, 0, 0, 0, 0, 0, 0, 0]) rfl) ?_
  rintro ⟨q, stn2, c⟩ ⟨hq, hsq, hPi⟩
  dsimp only at hq hsq hPi ⊢
  repeat' (first | refine Wkb ?_ | intro _ | apply And.intro)
  · rename_i hqlt
    refine J_block ?_
    obtain ⟨y, hyq⟩ : ∃ y, ys[q]? = some y := ⟨ys[q]'(by omega), List.getElem?_eq_getElem _⟩
    have hyt : takeL (ys.flatMap pickV) (q * 2) 2 = some (pickV y) := flat_take (f := pickV) (sz := 2) (fun _ _ => rfl) hyq
    obtain ⟨⟨hw0, hw1⟩, hd⟩ := hYi.bd y (List.mem_of_getElem? hyq)
    have hYr := hYi.rd
    repeat' (first | refine Wka ?_ | intro _ | apply And.intro)
    refine JO_fact _ (fun w hs => hYr.some (by omega) hs (by simp [RS])) ?_
    rintro ⟨bo, oo, rfl⟩
    refine JO_val (OV_idx (off := oo + q * 2) rfl rfl rfl rfl (by omega) (by omega) (by simp)) rfl rfl ?_
    refine JO_q (OQ_readA hYr (by simp [RS]) rfl rfl rfl (by omega) hyt) rfl rfl ?_
    repeat' (first | refine Wka ?_ | intro _ | apply And.intro)
    rename_i b19 _
    let B19 : HP := blk b19 [.int .u8 y.1, .int .i64 y.2] 49
    obtain ⟨w, hw, hwW⟩ : ∃ w : Nat, y.1 % (E2.W : Int) = (w : Int) ∧ w < E2.W := by
      have h1 := Int.emod_nonneg y.1 (show (E2.W : Int) ≠ 0 by omega)
      have h2 := Int.emod_lt_of_pos y.1 (show (0 : Int) < E2.W by omega)
      exact ⟨(y.1 % (E2.W : Int)).toNat, by omega, by omega⟩
    refine J_drawk [B19, B15] (fun H hl => (hl.perm (picks_perm (is := [0, 0]) rfl)).left) [0, 0, 5, 0, 0, 5, 0, 0, 5, 2] (List.range 10) (by kernel_rfl) (by kernel_rfl) ?_
    repeat' (first | refine Wke ?_ | intro _ | apply And.intro)
    rw [hw]
    refine JX_lk rfl rfl (OL_callP (r := blk b19 [.int .u8 y.1, .int .i64 y.2] 49 :: RS) rfl rfl rfl (CStep_spec hPo2 hPi.1 (by omega) hwW hd) (List.perm_append_comm (l₁ := blk b19 [.int .u8 y.1, .int .i64 y.2] 49 :: RS))) rfl rfl ?_ ?_
    · rintro _ _ ⟨_, ⟨c', e, st', _, _, _, rfl, rfl⟩, rfl⟩ H hl
      exact ((hl.perm List.perm_append_comm).perm (picks_perm (is := [0, 0]) rfl)).left
    rintro _ _ ⟨_, ⟨c', e, st', hS, hc', hst, rfl, rfl⟩, rfl⟩ _
    have hPi' := hPi.step hS hc'
    repeat' (first | refine Wke ?_ | intro _ | apply And.intro)
    repeat' (first | refine Wka ?_ | intro _ | apply And.intro)
    exact At_round (q + 1, st', c') (by show ys.length - (q + 1) < ys.length - q; omega) ⟨by show q + 1 ≤ ys.length; omega, by show st' ≤ q + 1; omega, hPi'⟩ Sgt (fun H hl => (hl.perm List.perm_append_comm).tail)
  have hme := hPi.meas hPo2.e
  have hM0 := M0_le hPo2.e.h.tn (by omega)
  repeat' (first | refine Wka ?_ | intro _ | apply And.intro)
  refine JO_l (OL_callP (r := RS) rfl rfl rfl (CRun_spec hPo2 hPi.1 hme (by omega)) (List.perm_append_comm (l₁ := RS))) rfl rfl ?_
  rintro _ _ ⟨_, ⟨S2, ms2, r2, tv2, sv2, stn3, kr2, hZ2, hZo2, _, _, rfl, rfl⟩, rfl⟩
  clear hme hM0 hPi
  repeat' (first | refine Wka ?_ | intro _ | apply And.intro)
  refine JO_l (OL_callP (r := RS) rfl rfl rfl (Result_spec hPo2 hZ2 hZo2) (.refl _)) rfl rfl ?_
  rintro _ _ ⟨_, ⟨p3, bw3, bs3, st3, out2, ao2, co2, hHT3, hol2, hfw2, rfl, rfl⟩, rfl⟩
  obtain ⟨hNW, hsT, hln, rfl⟩ := twice hPo hZ hPo2 hZ2 (hall ms2 hZ2.rm) hl2 hol2 hfw2
  clear hfw2 hol2
  rw [hNW, hsT] at hHT3 ⊢
  rw [hol]
  dsimp only [RS]
  rw [hZe]
  repeat' (first | refine Wka ?_ | intro _ | apply And.intro)
  refine JO_l (OL_call [0, 0, 0] rfl rfl rfl heapTop rfl) rfl rfl ?_
  rintro _ _ ⟨_, ⟨rfl, rfl⟩, rfl⟩
  repeat' (first | refine Wka ?_ | intro _ | apply And.intro)
  refine JO_l (OL_call [12, 12, 12] rfl rfl rfl heapTop rfl) rfl rfl ?_
  rintro _ _ ⟨_, ⟨rfl, rfl⟩, rfl⟩
  repeat' (first | refine Wka ?_ | intro _ | apply And.intro)
  refine JO_l (OL_call [7, 7, 7, 7, 7, 7, 7, 7, 0, 0, 0, 4, 4, 4, 4, 4, 4] rfl rfl rfl (Marked_spec hPo2 hZ2) rfl) rfl rfl ?_
  rintro _ _ ⟨_, ⟨rfl, rfl⟩, rfl⟩
  rw [hln]
  repeat' (first | refine Wka ?_ | intro _ | apply And.intro)
  refine JO_l (OL_call [24, 24, 24, 24, 24, 24, 24, 24, 24, 24, 24, 24, 24, 24, 24, 24, 24] rfl rfl rfl (Marked_spec hPo hZ) rfl) rfl rfl ?_
  rintro _ _ ⟨_, ⟨rfl, rfl⟩, rfl⟩
  repeat' (first | refine Wka ?_ | intro _ | apply And.intro)
  refine J_loop (α := Nat) (fun k => k ≤ E.rts.length)
    (fun k => [(12, ptr E2.p 0), (13, .slice ao E.rts.length co), (20, ptr p3 0), (21, .slice ao2 E.rts.length co2), (138, .int .i64 E.rts.length), (139, .int .i64 k)])
    (fun k => heapL E2.p E2.bw E2.bs E2.n E2.ws E2.T E2.st ++ heapL p3 bw3 bs3 E2.n E2.ws E2.T st3 ++ [row 3 1 ao2 E.rts.length co2 (intsV E2.rts), row 3 1 ao E.rts.length co (intsV E2.rts), Low W0])
    (fun k => E.rts.length - k) 0 (Nat.zero_le _) Sgt (fun H hl => hl.pick (is := [25, 25, 25, 31, 31, 31, 31, 32, 32]) rfl) ?_
  intro k hk
  repeat' (first | refine Wkb ?_ | intro _ | apply And.intro)
  · rename_i hklt
    refine J_block ?_
    refine J_fact _ (fun w hs => row_len (T := 3) (sz := 1) (m := E.rts.length) (cap := co2) (a := ao2) (cs := intsV E2.rts) hs (by simp)) ?_
    rintro ⟨hlo2, hno2, hco2⟩
    have hRb : Reads (row 3 1 ao2 E.rts.length co2 (intsV E2.rts)) 1 E.rts.length ao2 co2 (intsV E2.rts) := Reads.row hlo2 hno2
    obtain ⟨z, hz⟩ : ∃ z, E2.rts[k]? = some z := ⟨E2.rts[k]'(by omega), List.getElem?_eq_getElem _⟩
    refine J_fact _ (fun w hs => hRa.some (by omega) hs (by simp)) ?_
    rintro ⟨r1, q1, rfl⟩
    refine J_fact _ (fun w hs => hRb.some (by omega) hs (by simp)) ?_
    rintro ⟨r2, q2, rfl⟩
    repeat' (first | refine Wka ?_ | intro _ | apply And.intro)
    refine J_drawk [row 3 1 (some ⟨r1, q1, none⟩) E.rts.length co (intsV E2.rts), row 3 1 (some ⟨r2, q2, none⟩) E.rts.length co2 (intsV E2.rts)] (fun H hl => (hl.perm (picks_perm (is := [7, 6]) rfl)).left) [0, 0, 0, 5, 0, 0, 0, 5, 0] (List.range 9) (by kernel_rfl) (by kernel_rfl) ?_
    repeat' (first | refine Wke ?_ | intro _ | apply And.intro)
    refine JX_val rfl rfl (OV_idx (off := q1 + k) rfl rfl rfl rfl (by omega) (by omega) (by omega)) rfl rfl ?_
    refine JX_kept rfl rfl (OK_read (i := k) (v := .int .i64 z) hRa (by simp) rfl rfl (by omega) (by simp [hz])) rfl rfl ?_
    repeat' (first | refine Wke ?_ | intro _ | apply And.intro)
    refine JX_val rfl rfl (OV_idx (off := q2 + k) rfl rfl rfl rfl (by omega) (by omega) (by omega)) rfl rfl ?_
    refine JX_kept rfl rfl (OK_read (i := k) (v := .int .i64 z) hRb (by simp) rfl rfl (by omega) (by simp [hz])) rfl rfl ?_
    repeat' (first | refine Wke ?_ | intro _ | apply And.intro)
    repeat' (first | refine Wka ?_ | intro _ | apply And.intro)
    exact At_round (k + 1) (by show E.rts.length - (k + 1) < E.rts.length - k; omega) (by show k + 1 ≤ E.rts.length; omega) Sgt (fun H hl => hl)
  have hnb2 := hPo2.e.h.nb
  have hwl2 := hPo2.e.h.wl
  repeat' (first | refine Wka ?_ | intro _ | apply And.intro)
  have hM2 : Does Tryz.prog 15 [ptr E2.p 0] (heapL E2.p E2.bw E2.bs E2.n E2.ws E2.T E2.st) _ := heapWords hwl2 hnb2
  refine JO_l (OL_call [0, 0, 0] rfl rfl rfl hM2 rfl) rfl rfl ?_
  rintro _ _ ⟨_, ⟨aw, cw, hna, rfl, rfl⟩, rfl⟩
  clear hM2
  repeat' (first | refine Wka ?_ | intro _ | apply And.intro)
  have hM3 : Does Tryz.prog 15 [ptr p3 0] (heapL p3 bw3 bs3 E2.n E2.ws E2.T st3) _ := heapWords hwl2 hnb2
  refine JO_l (OL_call [4, 4, 4] rfl rfl rfl hM3 rfl) rfl rfl ?_
  rintro _ _ ⟨_, ⟨an, cn, hnn2, rfl, rfl⟩, rfl⟩
  clear hM3
  repeat' (first | refine Wka ?_ | intro _ | apply And.intro)
  have hR1 : Reads (row 3 1 aw E2.n cw (intsV E2.ws)) 1 E2.n aw cw (intsV E2.ws) := Reads.row (by simp; omega) hna
  have hR2 : Reads (row 3 1 an E2.n cn (intsV E2.ws)) 1 E2.n an cn (intsV E2.ws) := Reads.row (by simp; omega) hnn2
  refine J_loop (α := Nat) (fun k => k ≤ E2.n)
    (fun k => [(24, .slice aw E2.n cw), (25, .slice an E2.n cn), (157, .int .i64 E2.n), (158, .int .i64 k)])
    (fun k => [row 3 1 aw E2.n cw (intsV E2.ws), row 3 1 an E2.n cn (intsV E2.ws), Low W0])
    (fun k => E2.n - k) 0 (Nat.zero_le _) Sgt (fun H hl => hl.pick (is := [4, 0, 8]) rfl) ?_
  intro k hk
  repeat' (first | refine Wkb ?_ | intro _ | apply And.intro)
  · rename_i hklt
    refine J_block ?_
    obtain ⟨z, hz⟩ : ∃ z, E2.ws[k]? = some z := ⟨E2.ws[k]'(by omega), List.getElem?_eq_getElem _⟩
    refine J_fact _ (fun w hs => hR1.some (by omega) hs (by simp)) ?_
    rintro ⟨r1, q1, rfl⟩
    refine J_fact _ (fun w hs => hR2.some (by omega) hs (by simp)) ?_
    rintro ⟨r2, q2, rfl⟩
    repeat' (first | refine Wka ?_ | intro _ | apply And.intro)
    refine J_drawk [row 3 1 (some ⟨r1, q1, none⟩) E2.n cw (intsV E2.ws), row 3 1 (some ⟨r2, q2, none⟩) E2.n cn (intsV E2.ws)] (fun H hl => (hl.perm (picks_perm (is := [0, 0]) rfl)).left) [0, 0, 0, 5, 0, 0, 0, 5, 0] (List.range 9) (by kernel_rfl) (by kernel_rfl) ?_
    repeat' (first | refine Wke ?_ | intro _ | apply And.intro)
    refine JX_val rfl rfl (OV_idx (off := q1 + k) rfl rfl rfl rfl (by omega) (by omega) (by omega)) rfl rfl ?_
    refine JX_kept rfl rfl (OK_read (i := k) (v := .int .i64 z) hR1 (by simp) rfl rfl (by omega) (by simp [hz])) rfl rfl ?_
    repeat' (first | refine Wke ?_ | intro _ | apply And.intro)
    refine JX_val rfl rfl (OV_idx (off := q2 + k) rfl rfl rfl rfl (by omega) (by omega) (by omega)) rfl rfl ?_
    refine JX_kept rfl rfl (OK_read (i := k) (v := .int .i64 z) hR2 (by simp) rfl rfl (by omega) (by simp [hz])) rfl rfl ?_
    repeat' (first | refine Wke ?_ | intro _ | apply And.intro)
    repeat' (first | refine Wka ?_ | intro _ | apply And.intro)
    exact At_round (k + 1) (by show E2.n - (k + 1) < E2.n - k; omega) (by show k + 1 ≤ E2.n; omega) Sgt (fun H hl => hl)
  repeat' (first | refine Wka ?_ | intro _ | apply And.intro)
  exact At_ret rfl rfl (.tmp rfl .nil) rfl (is := [2]) rfl ⟨congrArg Value.bool (decide_eq_true rfl), rfl⟩
open Go.Sep Go.ChangeShapes Go.WideShapes Go.ChangeAt Go.RowKit
set_option maxRecDepth 100000 in
theorem many_reads2 {W : World} (h : laidMet Tryz.prog Rows.topAgainRow.laid W) : Reads (Low W) 1 13 (some ⟨0, 0, none⟩) 13 manyV :=
  reads_laid (ns := [0, 4, 0, 1, 0, 2, 3, 3, 2, 0, 2, 0, 0]) (g := 0) (t := 227) (by kernel_rfl) (by kernel_rfl) Tryz.underlying227 Tryz.underlying3 (by kernel_rfl) (by kernel_rfl) h
set_option maxRecDepth 100000 in
theorem TopAgain_lifted (os : Os) (started : os.Started) (H : Type) (enc : TypeId × Value → H) :
    ReturnsInHanded {} Tryz.checked os 4 .any (fun w args => (Rows.topAgainSpec.pre enc Tryz.prog Tryz.f4 Rows.topAgainRow.domain false w args ∧ laidMet Tryz.prog Rows.topAgainRow.laid w) ∧ sizedMet enc Tryz.prog Tryz.f4 (OpenSpec.ofChange Rows.topAgainSpec) false w args)
      (Rows.topAgainSpec.post enc Tryz.prog Tryz.f4 false true false false) := by
  refine law_lifted_laid (C := Tryz.checked) (laid := Rows.topAgainRow.laid) ownGodebug os started (by kernel_rfl) Tryz.func4 laidOut (by kernel_rfl) rfl Tryz.underlying4 rfl (fun ds h => ?_)
    (ChangeSpec.witness_at (enc := enc) (C := Tryz.checked) (os := os) (X := fun w _ => laidMet Tryz.prog Rows.topAgainRow.laid w) false (World.laidAll Tryz.prog os Rows.topAgainRow.laid) #[.agg #[.slice none 0 0, .slice none 0 0], .agg #[.int .u8 0, .int .u8 0, .int .u8 0, .int .u8 0, .int .u8 0, .int .u8 0, .int .u8 0, .int .u8 0, .int .u8 0, .int .u8 0], .slice none 0 0] 8
      (World.laidAll_os _ _ _) (by kernel_rfl) (by kernel_rfl) (by kernel_rfl) (by kernel_rfl) (by kernel_rfl) (laidMet_laidAll _ (by kernel_rfl) (by kernel_rfl))) ?_
  · match ds, h with
    | [d0, d1, d2], _ => rfl
  intro W base args ds ps hval hA hL
  have hG0 := many_reads2 hL
  rw [Tryz.params4] at hA hval
  obtain ⟨v0, vs0, d0, ds0, p0, q0, hargs, rfl, rfl, h0, r0⟩ := trodAll_cons hA
  obtain ⟨v1, vs1, d1, ds1, p1, q1, rfl, rfl, rfl, h1, r1⟩ := trodAll_cons r0
  obtain ⟨v2, vs2, d2, ds2, p2, q2, rfl, rfl, rfl, h2, r2⟩ := trodAll_cons r1
  obtain ⟨rfl, rfl, rfl⟩ := trodAll_nil r2
  obtain rfl : args = #[v0, v1, v2] := by cases args; simp_all
  obtain ⟨g, rfl, hG⟩ := open_gg (hval 0 _ v0 rfl rfl) h0
  obtain ⟨az, bz, rfl, la, lb, wa, wb⟩ := open_arr2 Tryz.underlying27 Tryz.underlying26 Tryz.underlying5 (by kernel_rfl) (by kernel_rfl) (by kernel_rfl) (hval 1 _ v1 rfl rfl) h1
  obtain ⟨x0, x1, x2, x3, x4, x5, x6, x7, x8, x9, hx, hn0, hn1⟩ := nm_ok la lb wa wb
  rw [hx]
  obtain ⟨a0, c0, ys0, rfl, k0⟩ := open_picks Tryz.underlying28 Tryz.underlying49 (by kernel_rfl) rfl rfl (by kernel_rfl) (by kernel_rfl) Tryz.underlying5 Tryz.underlying3 (hval 2 _ v2 rfl rfl) h2
  exact Does.calls (TopAgain_law hG0 hG hn0 hn1 (pk_ok k0))
theorem topAgain_holds : Rows.TopAgainSaid :=
  OpenClaim.holds_of_wide 4 Tryz.f4 rfl rfl rfl rfl rfl rfl rfl ⟨rfl, rfl, rfl, rfl, rfl⟩ rfl rfl rfl rfl rfl (by kernel_rfl) Tryz.func4 (by kernel_rfl)
    (of_decide_eq_true (by kernel_rfl)) (by unfold Func.isWrapper; first | (rw [if_pos (by decide +kernel)]; kernel_rfl) | (rw [if_neg (by decide +kernel)]; exact ⟨rfl, rfl⟩))
    (fun os started H enc _ => TopAgain_lifted os started H enc)
#print axioms topAgain_holds
end Go.Proofs.YtfmkjbmogfhpbaaGreatDoor
