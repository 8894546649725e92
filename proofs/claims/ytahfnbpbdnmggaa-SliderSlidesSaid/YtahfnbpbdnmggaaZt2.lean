/-
  Our own: what the claims of Zt share, 2 of 6: Jq Ti Hd RwBase Rs Rg RwG Cln Hp Hq Hr Int Rh LaHt Hw Hs Hu Hv Hx Hy Hz Ga Gb Gc Gd.
-/
import Derived.Test.YtahfnbpbdnmggaaZt1
import Derived.RangeFuncStops
import Derived.RangeFuncLeaves
import Derived.LoopNIn
import Derived.Laws.StructEq
import Derived.Tactics
import Derived.Laws.Slices
import Derived.Deep.Quiet
import Derived.IntWalk
import Derived.Shelf.Abstract
import Derived.Laws.Entries
import Derived.Laws.Rows
import Derived.Below
import Derived.TacticsIn
import Derived.OrdersIn
import Derived.KernelRfl
import Derived.Test.YtahfnbpbdnmggaaProg
import Derived.Test.YtahfnbpbdnmggaaRows
import Derived.ChangeArms
import Derived.WalkKit
import Derived.ProofKit
import Derived.OpenShut
import Derived.ChangeOld
import Derived.SizedLaws
import Derived.Carry
import Derived.Lib.SmallJoins
/-
  Our own, over any program: the walk's rules under short names, whose side conditions are met by themselves.
-/
set_option linter.unusedVariables false
namespace Go.Sep
open Go.RowKit
variable {C : Ctx} {opl rest : List Oper} {Q : Post} {kp : List HP} {ks rx : List Nat} {i : Nat} {p : Plan} {g : Regs} {l : List HP} {ty : TypeId} {pos : String} {af : Array Edge} {gd : Option (Nat × Bool)} {d : Tmp} {t t' : TypeId} {x y : Operand} {m n : Int} {c : Operand} {c1 c2 : Code} {φ : Prop} [Decidable φ]
theorem B1  (hx : ev g x = some (.int .i64 m)) (hy : ev g y = some (.int .i64 n))  (hw : gw opl g gd = some true) (hN : Nat.blt d C.N = true) (k : JO C opl Q rest ((d, .int .i64 (m + n)) :: g) l) (h0 : -9223372036854775808 ≤ m + n := by omega) (h1 : m + n ≤ 9223372036854775807 := by omega) : JO C opl Q (⟨some d, .binOp .add t x y t', ty, pos, af, gd⟩ :: rest) g l := JO_val (OV_add hx hy h0 h1) hw hN k
theorem B2  (hx : ev g x = some (.int .i64 m)) (hy : ev g y = some (.int .i64 n))  (hw : gw opl g gd = some true) (hN : Nat.blt d C.N = true) (k : JO C opl Q rest ((d, .int .i64 (m - n)) :: g) l) (h0 : -9223372036854775808 ≤ m - n := by omega) (h1 : m - n ≤ 9223372036854775807 := by omega) : JO C opl Q (⟨some d, .binOp .sub t x y t', ty, pos, af, gd⟩ :: rest) g l := JO_val (OV_sub hx hy h0 h1) hw hN k
theorem B3  (hx : ev g x = some (.int .i64 m)) (hy : ev g y = some (.int .i64 n))  (hw : gw opl g gd = some true) (hN : Nat.blt d C.N = true) (k : JO C opl Q rest ((d, .int .i64 (m * n)) :: g) l) (h0 : -9223372036854775808 ≤ m * n := by omega) (h1 : m * n ≤ 9223372036854775807 := by omega) : JO C opl Q (⟨some d, .binOp .mul t x y t', ty, pos, af, gd⟩ :: rest) g l := JO_val (OV_mul hx hy h0 h1) hw hN k
theorem B4  (hx : ev g x = some (.int .i64 m)) (hy : ev g y = some (.int .i64 n))  (hw : gw opl g gd = some true) (hN : Nat.blt d C.N = true) (k : JO C opl Q rest ((d, .int .i64 (m / n)) :: g) l) (h0 : 0 ≤ m := by omega) (h1 : 0 < n := by omega) (h2 : m ≤ 9223372036854775807 := by omega) : JO C opl Q (⟨some d, .binOp .quo t x y t', ty, pos, af, gd⟩ :: rest) g l := JO_val (OV_quo hx hy h0 h1 h2) hw hN k
theorem B5  (hx : ev g x = some (.int .i64 m)) (hy : ev g y = some (.int .i64 n))  (hw : gw opl g gd = some true) (hN : Nat.blt d C.N = true) (k : JO C opl Q rest ((d, .int .i64 (m % n)) :: g) l) (h0 : 0 ≤ m := by omega) (h1 : 0 < n := by omega) : JO C opl Q (⟨some d, .binOp .rem t x y t', ty, pos, af, gd⟩ :: rest) g l := JO_val (OV_rem hx hy h0 h1) hw hN k
theorem B6 {q : IntKind} (hx : ev g x = some (.int q m)) (hy : ev g y = some (.int q n))  (hw : gw opl g gd = some true) (hN : Nat.blt d C.N = true) (k : JO C opl Q rest ((d, .int q (m % n)) :: g) l) (h0 : 0 ≤ m := by omega) (h1 : 0 < n := by omega) : JO C opl Q (⟨some d, .binOp .rem t x y t', ty, pos, af, gd⟩ :: rest) g l := JO_val (OV_remk hx hy h0 h1) hw hN k
theorem B9 {u v : Value} {b : Bool} {j : TyI} (hx : ev g x = some u) (hy : ev g y = some v)  (ht : look C.ti t = some j) (hu : fitNil j.d u = true) (h : nilEq u v = some b) (hw : gw opl g gd = some true) (hN : Nat.blt d C.N = true) (k : JO C opl Q rest ((d, .bool (b)) :: g) l) : JO C opl Q (⟨some d, .binOp .eql t x y t', ty, pos, af, gd⟩ :: rest) g l := JO_val (OV_eqnil ht hx hy hu h) hw hN k
theorem BA {u v : Value} {b : Bool} {j : TyI} (hx : ev g x = some u) (hy : ev g y = some v)  (ht : look C.ti t = some j) (hu : fitNil j.d u = true) (h : nilEq u v = some b) (hw : gw opl g gd = some true) (hN : Nat.blt d C.N = true) (k : JO C opl Q rest ((d, .bool (!b)) :: g) l) : JO C opl Q (⟨some d, .binOp .neq t x y t', ty, pos, af, gd⟩ :: rest) g l := JO_val (OV_neqnil ht hx hy hu h) hw hN k
theorem V1 {v : Value} {o : Op}  (h : pureOp C.ti g o = some v) (hw : gw opl g gd = some true) (hN : Nat.blt d C.N = true) (k : JO C opl Q rest ((d, v) :: g) l) : JO C opl Q (⟨some d, o, ty, pos, af, gd⟩ :: rest) g l := JO_v h hw hN k
theorem U1 {fs pl : List (Nat × Nat)} {ps : List (Nat × Value)} {s1 s2 : Nat} {z cs : List Value} {parts : Array (Nat × Operand)}  (ht : look C.ti t = some ⟨.struct fs, s1, s2, z⟩) (hpl : placesL C.ti fs = some pl) (hp : evP g parts.toList = some ps) (hf : fillL pl z ps = some cs) (hw : gw opl g gd = some true) (hN : Nat.blt d C.N = true) (k : JO C opl Q rest ((d, .agg cs.toArray) :: g) l) : JO C opl Q (⟨some d, .build t parts, ty, pos, af, gd⟩ :: rest) g l := JO_val (OV_build ht hpl hp hf) hw hN k
theorem M1  (h : ev g x = some (.bool (decide φ)))  (hw : gw opl g gd = some true) (hN : Nat.blt d C.N = true) (k : JO C opl Q rest ((d, .bool true) :: g) l) (e : φ := by first | omega | (simp; done) | fail) : JO C opl Q (⟨some d, .move x, ty, pos, af, gd⟩ :: rest) g l := JO_mt h e hw hN k
theorem M2  (h : ev g x = some (.bool (decide φ)))  (hw : gw opl g gd = some true) (hN : Nat.blt d C.N = true) (k : JO C opl Q rest ((d, .bool false) :: g) l) (e : ¬ φ := by first | omega | (simp; done) | fail) : JO C opl Q (⟨some d, .move x, ty, pos, af, gd⟩ :: rest) g l := JO_mf h e hw hN k
theorem M3  (h : ev g x = some (.bool (!decide φ)))  (hw : gw opl g gd = some true) (hN : Nat.blt d C.N = true) (k : JO C opl Q rest ((d, .bool true) :: g) l) (e : ¬ φ := by first | omega | (simp; done) | fail) : JO C opl Q (⟨some d, .move x, ty, pos, af, gd⟩ :: rest) g l := JO_nt h e hw hN k
theorem M4  (h : ev g x = some (.bool (!decide φ)))  (hw : gw opl g gd = some true) (hN : Nat.blt d C.N = true) (k : JO C opl Q rest ((d, .bool false) :: g) l) (e : φ := by first | omega | (simp; done) | fail) : JO C opl Q (⟨some d, .move x, ty, pos, af, gd⟩ :: rest) g l := JO_nf h e hw hN k
theorem M5  (h : ev g x = some (.bool (decide φ)))  (hw : gw opl g gd = some true) (hN : Nat.blt d C.N = true) (k1 : φ → JO C opl Q rest ((d, .bool true) :: g) l) (k2 : ¬ φ → JO C opl Q rest ((d, .bool false) :: g) l) : JO C opl Q (⟨some d, .move x, ty, pos, af, gd⟩ :: rest) g l := JO_mb h hw hN k1 k2
theorem M6  (h : ev g x = some (.bool (!decide φ)))  (hw : gw opl g gd = some true) (hN : Nat.blt d C.N = true) (k1 : ¬ φ → JO C opl Q rest ((d, .bool true) :: g) l) (k2 : φ → JO C opl Q rest ((d, .bool false) :: g) l) : JO C opl Q (⟨some d, .move x, ty, pos, af, gd⟩ :: rest) g l := JO_nb h hw hN k1 k2
theorem C1 {k' : IntKind} {j : TyI} {s1 s2 : Nat} {z : List Value} (hx : ev g x = some (.int k' n))  (h1 : look C.ti t = some j) (h2 : look C.ti t' = some ⟨.int .i64, s1, s2, z⟩) (hw : gw opl g gd = some true) (hN : Nat.blt d C.N = true) (k : JO C opl Q rest ((d, .int .i64 n) :: g) l) (h3 : -9223372036854775808 ≤ n := by omega) (h4 : n ≤ 9223372036854775807 := by omega) : JO C opl Q (⟨some d, .convert t t' x, ty, pos, af, gd⟩ :: rest) g l := JO_val (OV_conv h1 h2 hx h3 h4) hw hN k
theorem G1 {o : Op}  (hw : gw opl g gd = some false) (hN : Nat.blt d C.N = true) (k : JO C opl Q rest ((d, undef) :: g) l) : JO C opl Q (⟨some d, o, ty, pos, af, gd⟩ :: rest) g l := JO_skip hw hN k
theorem L1 {b o T : Nat} {cs : List Value} {v : Value} (hx : ev g x = some (ptr b o))  (ha : aggAt C.ti t = some false) (hw : gw opl g gd = some true) (hN : Nat.blt d C.N = true) (k : JO C opl Q rest ((d, v) :: g) l) (m : blk b cs T ∈ l := by repeat (first | exact .head _ | refine .tail _ ?_)) (hc : cs[o]? = some v := by rfl) : JO C opl Q (⟨some d, .load t x, ty, pos, af, gd⟩ :: rest) g l := JO_q (OQ_load hx ha m hc) hw hN k
theorem L2 {b o T n : Nat} {cs vs : List Value} (hx : ev g x = some (ptr b o))  (ha : aggAt C.ti t = some true) (hn : sizeAt C.ti t = some n) (hw : gw opl g gd = some true) (hN : Nat.blt d C.N = true) (k : JO C opl Q rest ((d, .agg vs.toArray) :: g) l) (m : blk b cs T ∈ l := by repeat (first | exact .head _ | refine .tail _ ?_)) (hc : takeL cs o n = some vs := by rfl) : JO C opl Q (⟨some d, .load t x, ty, pos, af, gd⟩ :: rest) g l := JO_q (OQ_loadA hx ha hn m hc) hw hN k
theorem S1 {b o T j n : Nat} {cs cs' vs : List Value} {v : Value} {r : List HP} (hx : ev g x = some (ptr b o)) (hy : ev g y = some v)  (hv : cellsL v = some vs) (hn : sizeAt C.ti t = some n) (hl : vs.length = n) (hp : plainL vs = true) (hw : gw opl g gd = some true) (k : Value → JO C opl Q rest g (blk b cs' T :: r)) (m : pick1 l j = some (blk b cs T, r) := by first | exact P0 | exact P1 | exact P2 | exact P3 | exact P4 | exact P5 | exact P6 | exact P7) (hc : putL cs o vs = some cs' := by rfl) : JO C opl Q (⟨none, .store t x y, ty, pos, af, gd⟩ :: rest) g l := JO_l0 (OL_store hx hy hv hn hl hp m hc) hw (by rintro v _ rfl; exact k v)
theorem N1 {v : Value} {cs : List Value} (hx : ev g x = some v)  (hc : cellsL v = some cs) (hw : gw opl g gd = some true) (hN : Nat.blt d C.N = true) (k : ∀ b, JO C opl Q rest ((d, ptr b 0) :: g) (blk b cs t :: l)) : JO C opl Q (⟨some d, .box t x, ty, pos, af, gd⟩ :: rest) g l := JO_l (OL_box hx hc) hw hN (by rintro _ _ ⟨b, rfl, rfl⟩; exact k b)
theorem N2 {j : TyI} {cs : List Value}  (ht : look C.ti t = some j) (hc : litL j.zero = some cs) (hw : gw opl g gd = some true) (hN : Nat.blt d C.N = true) (k : ∀ b, JO C opl Q rest ((d, ptr b 0) :: g) (blk b cs t :: l)) : JO C opl Q (⟨some d, .alloc t, ty, pos, af, gd⟩ :: rest) g l := JO_l (OL_alloc ht hc) hw hN (by rintro _ _ ⟨b, rfl, rfl⟩; exact k b)
theorem XB1  (hx : ev g x = some (.int .i64 m)) (hy : ev g y = some (.int .i64 n))  (hk : Nat.blt (kindAt ks i) 2 = true) (hw : gw opl g gd = some true) (hN : Nat.blt d C.N = true) (k : JX C opl Q kp ks rx ((d, .int .i64 (m + n)) :: g) l) (h0 : -9223372036854775808 ≤ m + n := by omega) (h1 : m + n ≤ 9223372036854775807 := by omega) : JXO C opl Q kp ks i ⟨some d, .binOp .add t x y t', ty, pos, af, gd⟩ rx g l := XO_val hk (OV_add hx hy h0 h1) hw hN k
theorem XB2  (hx : ev g x = some (.int .i64 m)) (hy : ev g y = some (.int .i64 n))  (hk : Nat.blt (kindAt ks i) 2 = true) (hw : gw opl g gd = some true) (hN : Nat.blt d C.N = true) (k : JX C opl Q kp ks rx ((d, .int .i64 (m - n)) :: g) l) (h0 : -9223372036854775808 ≤ m - n := by omega) (h1 : m - n ≤ 9223372036854775807 := by omega) : JXO C opl Q kp ks i ⟨some d, .binOp .sub t x y t', ty, pos, af, gd⟩ rx g l := XO_val hk (OV_sub hx hy h0 h1) hw hN k
theorem XB3  (hx : ev g x = some (.int .i64 m)) (hy : ev g y = some (.int .i64 n))  (hk : Nat.blt (kindAt ks i) 2 = true) (hw : gw opl g gd = some true) (hN : Nat.blt d C.N = true) (k : JX C opl Q kp ks rx ((d, .int .i64 (m * n)) :: g) l) (h0 : -9223372036854775808 ≤ m * n := by omega) (h1 : m * n ≤ 9223372036854775807 := by omega) : JXO C opl Q kp ks i ⟨some d, .binOp .mul t x y t', ty, pos, af, gd⟩ rx g l := XO_val hk (OV_mul hx hy h0 h1) hw hN k
theorem XB4  (hx : ev g x = some (.int .i64 m)) (hy : ev g y = some (.int .i64 n))  (hk : Nat.blt (kindAt ks i) 2 = true) (hw : gw opl g gd = some true) (hN : Nat.blt d C.N = true) (k : JX C opl Q kp ks rx ((d, .int .i64 (m / n)) :: g) l) (h0 : 0 ≤ m := by omega) (h1 : 0 < n := by omega) (h2 : m ≤ 9223372036854775807 := by omega) : JXO C opl Q kp ks i ⟨some d, .binOp .quo t x y t', ty, pos, af, gd⟩ rx g l := XO_val hk (OV_quo hx hy h0 h1 h2) hw hN k
theorem XB5  (hx : ev g x = some (.int .i64 m)) (hy : ev g y = some (.int .i64 n))  (hk : Nat.blt (kindAt ks i) 2 = true) (hw : gw opl g gd = some true) (hN : Nat.blt d C.N = true) (k : JX C opl Q kp ks rx ((d, .int .i64 (m % n)) :: g) l) (h0 : 0 ≤ m := by omega) (h1 : 0 < n := by omega) : JXO C opl Q kp ks i ⟨some d, .binOp .rem t x y t', ty, pos, af, gd⟩ rx g l := XO_val hk (OV_rem hx hy h0 h1) hw hN k
theorem XB7 {a b : Bool} {s1 s2 : Nat} {z : List Value} (hx : ev g x = some (.bool a)) (hy : ev g y = some (.bool b))  (hk : Nat.blt (kindAt ks i) 2 = true) (ht : look C.ti t = some ⟨.bool, s1, s2, z⟩) (hw : gw opl g gd = some true) (hN : Nat.blt d C.N = true) (k : JX C opl Q kp ks rx ((d, .bool (a == b)) :: g) l) : JXO C opl Q kp ks i ⟨some d, .binOp .eql t x y t', ty, pos, af, gd⟩ rx g l := XO_val hk (OV_eqbool ht hx hy) hw hN k
theorem XB9 {u v : Value} {b : Bool} {j : TyI} (hx : ev g x = some u) (hy : ev g y = some v)  (hk : Nat.blt (kindAt ks i) 2 = true) (ht : look C.ti t = some j) (hu : fitNil j.d u = true) (h : nilEq u v = some b) (hw : gw opl g gd = some true) (hN : Nat.blt d C.N = true) (k : JX C opl Q kp ks rx ((d, .bool (b)) :: g) l) : JXO C opl Q kp ks i ⟨some d, .binOp .eql t x y t', ty, pos, af, gd⟩ rx g l := XO_val hk (OV_eqnil ht hx hy hu h) hw hN k
theorem XV1 {v : Value} {o : Op}  (hk : Nat.blt (kindAt ks i) 2 = true) (h : pureOp C.ti g o = some v) (hw : gw opl g gd = some true) (hN : Nat.blt d C.N = true) (k : JX C opl Q kp ks rx ((d, v) :: g) l) : JXO C opl Q kp ks i ⟨some d, o, ty, pos, af, gd⟩ rx g l := XO_v hk h hw hN k
theorem XU1 {fs pl : List (Nat × Nat)} {ps : List (Nat × Value)} {s1 s2 : Nat} {z cs : List Value} {parts : Array (Nat × Operand)}  (hk : Nat.blt (kindAt ks i) 2 = true) (ht : look C.ti t = some ⟨.struct fs, s1, s2, z⟩) (hpl : placesL C.ti fs = some pl) (hp : evP g parts.toList = some ps) (hf : fillL pl z ps = some cs) (hw : gw opl g gd = some true) (hN : Nat.blt d C.N = true) (k : JX C opl Q kp ks rx ((d, .agg cs.toArray) :: g) l) : JXO C opl Q kp ks i ⟨some d, .build t parts, ty, pos, af, gd⟩ rx g l := XO_val hk (OV_build ht hpl hp hf) hw hN k
theorem XM1  (h : ev g x = some (.bool (decide φ)))  (hk : Nat.blt (kindAt ks i) 2 = true) (hw : gw opl g gd = some true) (hN : Nat.blt d C.N = true) (k : JX C opl Q kp ks rx ((d, .bool true) :: g) l) (e : φ := by first | omega | (simp; done) | fail) : JXO C opl Q kp ks i ⟨some d, .move x, ty, pos, af, gd⟩ rx g l := XO_mt hk h e hw hN k
theorem XM2  (h : ev g x = some (.bool (decide φ)))  (hk : Nat.blt (kindAt ks i) 2 = true) (hw : gw opl g gd = some true) (hN : Nat.blt d C.N = true) (k : JX C opl Q kp ks rx ((d, .bool false) :: g) l) (e : ¬ φ := by first | omega | (simp; done) | fail) : JXO C opl Q kp ks i ⟨some d, .move x, ty, pos, af, gd⟩ rx g l := XO_mf hk h e hw hN k
theorem XM3  (h : ev g x = some (.bool (!decide φ)))  (hk : Nat.blt (kindAt ks i) 2 = true) (hw : gw opl g gd = some true) (hN : Nat.blt d C.N = true) (k : JX C opl Q kp ks rx ((d, .bool true) :: g) l) (e : ¬ φ := by first | omega | (simp; done) | fail) : JXO C opl Q kp ks i ⟨some d, .move x, ty, pos, af, gd⟩ rx g l := XO_nt hk h e hw hN k
theorem XM4  (h : ev g x = some (.bool (!decide φ)))  (hk : Nat.blt (kindAt ks i) 2 = true) (hw : gw opl g gd = some true) (hN : Nat.blt d C.N = true) (k : JX C opl Q kp ks rx ((d, .bool false) :: g) l) (e : φ := by first | omega | (simp; done) | fail) : JXO C opl Q kp ks i ⟨some d, .move x, ty, pos, af, gd⟩ rx g l := XO_nf hk h e hw hN k
theorem XG1 {o : Op}  (hk : Nat.blt (kindAt ks i) 2 = true) (hw : gw opl g gd = some false) (hN : Nat.blt d C.N = true) (k : JX C opl Q kp ks rx ((d, undef) :: g) l) : JXO C opl Q kp ks i ⟨some d, o, ty, pos, af, gd⟩ rx g l := XO_skip hk hw hN k
theorem XL1 {b o T : Nat} {cs : List Value} {v : Value} (hx : ev g x = some (ptr b o))  (hk : kindAt ks i = 1) (ha : aggAt C.ti t = some false) (hw : gw opl g gd = some true) (hN : Nat.blt d C.N = true) (k : JX C opl Q kp ks rx ((d, v) :: g) l) (m : blk b cs T ∈ l := by repeat (first | exact .head _ | refine .tail _ ?_)) (hc : cs[o]? = some v := by rfl) : JXO C opl Q kp ks i ⟨some d, .load t x, ty, pos, af, gd⟩ rx g l := XO_q hk (OQ_load hx ha m hc) hw hN k
theorem XL2 {b o T n : Nat} {cs vs : List Value} (hx : ev g x = some (ptr b o))  (hk : kindAt ks i = 1) (ha : aggAt C.ti t = some true) (hn : sizeAt C.ti t = some n) (hw : gw opl g gd = some true) (hN : Nat.blt d C.N = true) (k : JX C opl Q kp ks rx ((d, .agg vs.toArray) :: g) l) (m : blk b cs T ∈ l := by repeat (first | exact .head _ | refine .tail _ ?_)) (hc : takeL cs o n = some vs := by rfl) : JXO C opl Q kp ks i ⟨some d, .load t x, ty, pos, af, gd⟩ rx g l := XO_q hk (OQ_loadA hx ha hn m hc) hw hN k
theorem XL1k {b o T : Nat} {cs : List Value} {v : Value} (hx : ev g x = some (ptr b o))  (hk : kindAt ks i = 5) (ha : aggAt C.ti t = some false) (hw : gw opl g gd = some true) (hN : Nat.blt d C.N = true) (k : JX C opl Q kp ks rx ((d, v) :: g) l) (m : blk b cs T ∈ kp := by repeat (first | exact .head _ | refine .tail _ ?_)) (hc : cs[o]? = some v := by rfl) : JXO C opl Q kp ks i ⟨some d, .load t x, ty, pos, af, gd⟩ rx g l := XO_kept hk (OK_load hx ha m hc) hw hN k
theorem XL2k {b o T n : Nat} {cs vs : List Value} (hx : ev g x = some (ptr b o))  (hk : kindAt ks i = 5) (ha : aggAt C.ti t = some true) (hn : sizeAt C.ti t = some n) (hw : gw opl g gd = some true) (hN : Nat.blt d C.N = true) (k : JX C opl Q kp ks rx ((d, .agg vs.toArray) :: g) l) (m : blk b cs T ∈ kp := by repeat (first | exact .head _ | refine .tail _ ?_)) (hc : takeL cs o n = some vs := by rfl) : JXO C opl Q kp ks i ⟨some d, .load t x, ty, pos, af, gd⟩ rx g l := XO_kept hk (OK_loadA hx ha hn m hc) hw hN k
theorem XS1 {b o T j n : Nat} {cs cs' vs : List Value} {v : Value} {r : List HP} (hx : ev g x = some (ptr b o)) (hy : ev g y = some v)  (hk : kindAt ks i = 2) (hv : cellsL v = some vs) (hn : sizeAt C.ti t = some n) (hl : vs.length = n) (hp : plainL vs = true) (hw : gw opl g gd = some true) (k : Value → JX C opl Q [] ks rx g (blk b cs' T :: r)) (m : pick1 l j = some (blk b cs T, r) := by first | exact P0 | exact P1 | exact P2 | exact P3 | exact P4 | exact P5 | exact P6 | exact P7) (hc : putL cs o vs = some cs' := by rfl) : JXO C opl Q [] ks i ⟨none, .store t x y, ty, pos, af, gd⟩ rx g l := XO_l0 hk (OL_store hx hy hv hn hl hp m hc) hw (by rintro v _ rfl; exact k v)
theorem XN1 {v : Value} {cs : List Value} (hx : ev g x = some v)  (hk : kindAt ks i = 2) (hc : cellsL v = some cs) (hw : gw opl g gd = some true) (hN : Nat.blt d C.N = true) (k : ∀ b, JX C opl Q [] ks rx ((d, ptr b 0) :: g) (blk b cs t :: l)) : JXO C opl Q [] ks i ⟨some d, .box t x, ty, pos, af, gd⟩ rx g l := XO_l hk (OL_box hx hc) hw hN (by rintro _ _ ⟨b, rfl, rfl⟩; exact k b)
theorem FB1  (hx : ev g x = some (.int .i64 m)) (hy : ev g y = some (.int .i64 n))  (hw : gw opl g gd = some true) (hN : Nat.blt d C.N = true) (k : JF C opl Q kp ks p ((d, .int .i64 (m + n)) :: g) l) (h0 : -9223372036854775808 ≤ m + n := by omega) (h1 : m + n ≤ 9223372036854775807 := by omega) : JFQ C opl Q kp ks i ⟨some d, .binOp .add t x y t', ty, pos, af, gd⟩ p g l := FO_val (OV_add hx hy h0 h1) hw hN k
theorem FV1 {v : Value} {o : Op}  (h : pureOp C.ti g o = some v) (hw : gw opl g gd = some true) (hN : Nat.blt d C.N = true) (k : JF C opl Q kp ks p ((d, v) :: g) l) : JFQ C opl Q kp ks i ⟨some d, o, ty, pos, af, gd⟩ p g l := FO_v h hw hN k
theorem FU1 {fs pl : List (Nat × Nat)} {ps : List (Nat × Value)} {s1 s2 : Nat} {z cs : List Value} {parts : Array (Nat × Operand)}  (ht : look C.ti t = some ⟨.struct fs, s1, s2, z⟩) (hpl : placesL C.ti fs = some pl) (hp : evP g parts.toList = some ps) (hf : fillL pl z ps = some cs) (hw : gw opl g gd = some true) (hN : Nat.blt d C.N = true) (k : JF C opl Q kp ks p ((d, .agg cs.toArray) :: g) l) : JFQ C opl Q kp ks i ⟨some d, .build t parts, ty, pos, af, gd⟩ p g l := FO_val (OV_build ht hpl hp hf) hw hN k
theorem FL1k {b o T : Nat} {cs : List Value} {v : Value} (hx : ev g x = some (ptr b o))  (hk : kindAt ks i = 5) (ha : aggAt C.ti t = some false) (hw : gw opl g gd = some true) (hN : Nat.blt d C.N = true) (k : JF C opl Q kp ks p ((d, v) :: g) l) (m : blk b cs T ∈ kp := by repeat (first | exact .head _ | refine .tail _ ?_)) (hc : cs[o]? = some v := by rfl) : JFQ C opl Q kp ks i ⟨some d, .load t x, ty, pos, af, gd⟩ p g l := FO_kept hk (OK_load hx ha m hc) hw hN k
theorem FL2k {b o T n : Nat} {cs vs : List Value} (hx : ev g x = some (ptr b o))  (hk : kindAt ks i = 5) (ha : aggAt C.ti t = some true) (hn : sizeAt C.ti t = some n) (hw : gw opl g gd = some true) (hN : Nat.blt d C.N = true) (k : JF C opl Q kp ks p ((d, .agg vs.toArray) :: g) l) (m : blk b cs T ∈ kp := by repeat (first | exact .head _ | refine .tail _ ?_)) (hc : takeL cs o n = some vs := by rfl) : JFQ C opl Q kp ks i ⟨some d, .load t x, ty, pos, af, gd⟩ p g l := FO_kept hk (OK_loadA hx ha hn m hc) hw hN k
theorem K1  (h : ev g c = some (.bool (decide φ)))  (k : J C c1 Q g l) (e : φ := by first | omega | (simp; done) | fail) : J C (.cond c c1 c2) Q g l := J_ct h e k
theorem K2  (h : ev g c = some (.bool (decide φ)))  (k : J C c2 Q g l) (e : ¬ φ := by first | omega | (simp; done) | fail) : J C (.cond c c1 c2) Q g l := J_cf h e k
theorem K4  (h : ev g c = some (.bool (!decide φ)))  (k : J C c2 Q g l) (e : φ := by first | omega | (simp; done) | fail) : J C (.cond c c1 c2) Q g l := J_nf h e k
theorem T1 (h : J C c1 Q g l) : At C (PThen C c1 Q .normal) g l := At_then_normal h
theorem T2 (h : At C (Q .ret) g l) : At C (PThen C c1 Q .ret) g l := At_then_ret h
theorem T3 {id : Nat} (h : At C (Q (.exit id)) g l) : At C (PThen C c1 Q (.exit id)) g l := At_then_exit h
theorem T4 {id : Nat} (h : At C (Q .ret) g l) : At C (PBlock id Q .ret) g l := At_block_ret h
theorem T5 {id : Nat} (h : At C (Q .normal) g l) : At C (PBlock id Q .normal) g l := At_block_normal h
theorem T6 {α : Type} {I : α → Prop} {G : α → Regs} {L : α → List HP} {μ : α → Nat} {x : α} {id : Nat} (h : At C (Q (.exit id)) g l) : At C (PRound C I G L μ x Q (.exit id)) g l := At_round_exit h
theorem T7 {α : Type} {I : α → Prop} {G : α → Regs} {L : α → List HP} {μ : α → Nat} {x : α} (h : At C (Q .ret) g l) : At C (PRound C I G L μ x Q .ret) g l := At_round_ret h
end Go.Sep
/-
  The table of types of the seat, by our program mkti.py out of the translation, and that it is the program's.
-/
namespace Go.Proofs.Ytahfnbpbdnmggaa
open Go.Sep
def ti : TIs := [
  (3, ⟨.int .i64, 1, 8, [.int .i64 0]⟩),
  (4, ⟨.bool, 1, 1, [.bool false]⟩),
  (5, ⟨.int .u8, 1, 1, [.int .u8 0]⟩),
  (24, ⟨.struct [(0, 22), (1, 23)], 2, 48, [.slice none 0 0, .slice none 0 0]⟩),
  (25, ⟨.struct [(0, 22), (1, 23)], 2, 48, [.slice none 0 0, .slice none 0 0]⟩),
  (32, ⟨.struct [(0, 3), (1, 31)], 2, 32, [.int .i64 0, .slice none 0 0]⟩),
  (33, ⟨.struct [(0, 3), (1, 31)], 2, 32, [.int .i64 0, .slice none 0 0]⟩),
  (44, ⟨.struct [(0, 3), (1, 3), (2, 3)], 3, 24, [.int .i64 0, .int .i64 0, .int .i64 0]⟩),
  (45, ⟨.struct [(0, 3), (1, 3), (2, 3)], 3, 24, [.int .i64 0, .int .i64 0, .int .i64 0]⟩),
  (46, ⟨.struct [(0, 3), (1, 45), (4, 30)], 5, 56, [.int .i64 0, .int .i64 0, .int .i64 0, .int .i64 0, .slice none 0 0]⟩),
  (47, ⟨.struct [(0, 3), (1, 45), (4, 30)], 5, 56, [.int .i64 0, .int .i64 0, .int .i64 0, .int .i64 0, .slice none 0 0]⟩),
  (77, ⟨.struct [(0, 5), (1, 23), (2, 5)], 3, 40, [.int .u8 0, .slice none 0 0, .int .u8 0]⟩),
  (78, ⟨.struct [(0, 5), (1, 23), (2, 5)], 3, 40, [.int .u8 0, .slice none 0 0, .int .u8 0]⟩),
  (88, ⟨.struct [(0, 87), (1, 3)], 2, 32, [.slice none 0 0, .int .i64 0]⟩),
  (89, ⟨.struct [(0, 87), (1, 3)], 2, 32, [.slice none 0 0, .int .i64 0]⟩),
  (90, ⟨.struct [(0, 30), (1, 3), (2, 41)], 3, 56, [.slice none 0 0, .int .i64 0, .slice none 0 0]⟩),
  (91, ⟨.struct [(0, 30), (1, 3), (2, 41)], 3, 56, [.slice none 0 0, .int .i64 0, .slice none 0 0]⟩),
  (98, ⟨.struct [(0, 93), (1, 29), (2, 96), (3, 96), (4, 97), (5, 3), (6, 3), (7, 3)], 8, 80, [.pointer none, .pointer none, .pointer none, .pointer none, .slice none 0 0, .int .i64 0, .int .i64 0, .int .i64 0]⟩),
  (99, ⟨.struct [(0, 93), (1, 29), (2, 96), (3, 96), (4, 97), (5, 3), (6, 3), (7, 3)], 8, 80, [.pointer none, .pointer none, .pointer none, .pointer none, .slice none 0 0, .int .i64 0, .int .i64 0, .int .i64 0]⟩),
  (103, ⟨.struct [(0, 3), (1, 102), (2, 30)], 3, 56, [.int .i64 0, .slice none 0 0, .slice none 0 0]⟩),
  (104, ⟨.struct [(0, 3), (1, 102), (2, 30)], 3, 56, [.int .i64 0, .slice none 0 0, .slice none 0 0]⟩),
  (105, ⟨.struct [(0, 104), (3, 29), (4, 36)], 5, 72, [.int .i64 0, .slice none 0 0, .slice none 0 0, .pointer none, .pointer none]⟩),
  (106, ⟨.struct [(0, 104), (3, 29), (4, 36)], 5, 72, [.int .i64 0, .slice none 0 0, .slice none 0 0, .pointer none, .pointer none]⟩),
  (109, ⟨.struct [(0, 48), (1, 3), (2, 108), (3, 3), (4, 30), (5, 30), (6, 3), (7, 3), (8, 3), (9, 3), (10, 3), (11, 3), (12, 3)], 13, 136, [.pointer none, .int .i64 0, .nilFunc, .int .i64 0, .slice none 0 0, .slice none 0 0, .int .i64 0, .int .i64 0, .int .i64 0, .int .i64 0, .int .i64 0, .int .i64 0, .int .i64 0]⟩),
  (110, ⟨.struct [(0, 48), (1, 3), (2, 108), (3, 3), (4, 30), (5, 30), (6, 3), (7, 3), (8, 3), (9, 3), (10, 3), (11, 3), (12, 3)], 13, 136, [.pointer none, .int .i64 0, .nilFunc, .int .i64 0, .slice none 0 0, .slice none 0 0, .int .i64 0, .int .i64 0, .int .i64 0, .int .i64 0, .int .i64 0, .int .i64 0, .int .i64 0]⟩),
  (128, ⟨.struct [(0, 30), (1, 127)], 2, 48, [.slice none 0 0, .slice none 0 0]⟩),
  (129, ⟨.struct [(0, 30), (1, 127)], 2, 48, [.slice none 0 0, .slice none 0 0]⟩),
  (139, ⟨.struct [(0, 3), (1, 3), (2, 3), (3, 3), (4, 3)], 5, 40, [.int .i64 0, .int .i64 0, .int .i64 0, .int .i64 0, .int .i64 0]⟩),
  (140, ⟨.struct [(0, 3), (1, 3), (2, 3), (3, 3), (4, 3)], 5, 40, [.int .i64 0, .int .i64 0, .int .i64 0, .int .i64 0, .int .i64 0]⟩),
  (22, ⟨.slice 78, 1, 24, [.slice none 0 0]⟩),
  (23, ⟨.slice 5, 1, 24, [.slice none 0 0]⟩),
  (29, ⟨.ptr 91, 1, 8, [.pointer none]⟩),
  (30, ⟨.slice 3, 1, 24, [.slice none 0 0]⟩),
  (31, ⟨.slice 47, 1, 24, [.slice none 0 0]⟩),
  (36, ⟨.ptr 89, 1, 8, [.pointer none]⟩),
  (41, ⟨.slice 4, 1, 24, [.slice none 0 0]⟩),
  (48, ⟨.ptr 99, 1, 8, [.pointer none]⟩),
  (87, ⟨.slice 92, 1, 24, [.slice none 0 0]⟩),
  (93, ⟨.ptr 106, 1, 8, [.pointer none]⟩),
  (96, ⟨.ptr 129, 1, 8, [.pointer none]⟩),
  (97, ⟨.slice 107, 1, 24, [.slice none 0 0]⟩),
  (102, ⟨.slice 30, 1, 24, [.slice none 0 0]⟩),
  (107, ⟨.ptr 110, 1, 8, [.pointer none]⟩),
  (127, ⟨.slice 140, 1, 24, [.slice none 0 0]⟩),
  (157, ⟨.ptr 5, 1, 8, [.pointer none]⟩),
  (2, ⟨.int .i64, 1, 8, [.int .i64 0]⟩),
  (21, ⟨.int .i32, 1, 4, [.int .i32 0]⟩),
  (37, ⟨.int .i64, 1, 8, [.int .i64 0]⟩),
  (92, ⟨.int .u64, 1, 8, [.int .u64 0]⟩),
  (153, ⟨.int .u32, 1, 4, [.int .u32 0]⟩),
  (1, ⟨.func, 1, 8, [.nilFunc]⟩),
  (20, ⟨.iface 0, 1, 16, [.nilIface]⟩),
  (26, ⟨.array 2 3, 2, 16, [.int .i64 0, .int .i64 0]⟩),
  (27, ⟨.func, 1, 8, [.nilFunc]⟩),
  (28, ⟨.func, 1, 8, [.nilFunc]⟩),
  (35, ⟨.func, 1, 8, [.nilFunc]⟩),
  (39, ⟨.func, 1, 8, [.nilFunc]⟩),
  (40, ⟨.func, 1, 8, [.nilFunc]⟩),
  (43, ⟨.func, 1, 8, [.nilFunc]⟩),
  (50, ⟨.func, 1, 8, [.nilFunc]⟩),
  (51, ⟨.func, 1, 8, [.nilFunc]⟩),
  (53, ⟨.func, 1, 8, [.nilFunc]⟩),
  (55, ⟨.func, 1, 8, [.nilFunc]⟩),
  (56, ⟨.func, 1, 8, [.nilFunc]⟩),
  (57, ⟨.array 4 5, 4, 4, [.int .u8 0, .int .u8 0, .int .u8 0, .int .u8 0]⟩),
  (59, ⟨.func, 1, 8, [.nilFunc]⟩),
  (60, ⟨.array 2 30, 2, 48, [.slice none 0 0, .slice none 0 0]⟩),
  (61, ⟨.func, 1, 8, [.nilFunc]⟩),
  (63, ⟨.func, 1, 8, [.nilFunc]⟩),
  (64, ⟨.func, 1, 8, [.nilFunc]⟩),
  (65, ⟨.func, 1, 8, [.nilFunc]⟩),
  (66, ⟨.array 2 5, 2, 2, [.int .u8 0, .int .u8 0]⟩),
  (67, ⟨.func, 1, 8, [.nilFunc]⟩),
  (68, ⟨.func, 1, 8, [.nilFunc]⟩),
  (69, ⟨.func, 1, 8, [.nilFunc]⟩),
  (70, ⟨.func, 1, 8, [.nilFunc]⟩),
  (71, ⟨.func, 1, 8, [.nilFunc]⟩),
  (72, ⟨.func, 1, 8, [.nilFunc]⟩),
  (73, ⟨.func, 1, 8, [.nilFunc]⟩),
  (74, ⟨.func, 1, 8, [.nilFunc]⟩),
  (75, ⟨.func, 1, 8, [.nilFunc]⟩),
  (76, ⟨.func, 1, 8, [.nilFunc]⟩),
  (80, ⟨.func, 1, 8, [.nilFunc]⟩),
  (82, ⟨.func, 1, 8, [.nilFunc]⟩),
  (83, ⟨.func, 1, 8, [.nilFunc]⟩),
  (84, ⟨.func, 1, 8, [.nilFunc]⟩),
  (86, ⟨.func, 1, 8, [.nilFunc]⟩),
  (94, ⟨.func, 1, 8, [.nilFunc]⟩),
  (95, ⟨.func, 1, 8, [.nilFunc]⟩),
  (101, ⟨.func, 1, 8, [.nilFunc]⟩),
  (108, ⟨.func, 1, 8, [.nilFunc]⟩),
  (111, ⟨.func, 1, 8, [.nilFunc]⟩),
  (112, ⟨.func, 1, 8, [.nilFunc]⟩),
  (113, ⟨.func, 1, 8, [.nilFunc]⟩),
  (114, ⟨.func, 1, 8, [.nilFunc]⟩),
  (115, ⟨.func, 1, 8, [.nilFunc]⟩),
  (116, ⟨.func, 1, 8, [.nilFunc]⟩),
  (118, ⟨.func, 1, 8, [.nilFunc]⟩),
  (119, ⟨.func, 1, 8, [.nilFunc]⟩),
  (120, ⟨.func, 1, 8, [.nilFunc]⟩),
  (121, ⟨.func, 1, 8, [.nilFunc]⟩),
  (122, ⟨.func, 1, 8, [.nilFunc]⟩),
  (123, ⟨.func, 1, 8, [.nilFunc]⟩),
  (124, ⟨.func, 1, 8, [.nilFunc]⟩),
  (125, ⟨.func, 1, 8, [.nilFunc]⟩),
  (126, ⟨.func, 1, 8, [.nilFunc]⟩),
  (130, ⟨.func, 1, 8, [.nilFunc]⟩),
  (131, ⟨.func, 1, 8, [.nilFunc]⟩),
  (132, ⟨.func, 1, 8, [.nilFunc]⟩),
  (133, ⟨.func, 1, 8, [.nilFunc]⟩),
  (134, ⟨.func, 1, 8, [.nilFunc]⟩),
  (135, ⟨.func, 1, 8, [.nilFunc]⟩),
  (136, ⟨.func, 1, 8, [.nilFunc]⟩),
  (137, ⟨.func, 1, 8, [.nilFunc]⟩),
  (138, ⟨.func, 1, 8, [.nilFunc]⟩),
  (141, ⟨.func, 1, 8, [.nilFunc]⟩),
  (143, ⟨.func, 1, 8, [.nilFunc]⟩),
  (144, ⟨.func, 1, 8, [.nilFunc]⟩),
  (145, ⟨.func, 1, 8, [.nilFunc]⟩),
  (146, ⟨.func, 1, 8, [.nilFunc]⟩),
  (156, ⟨.func, 1, 8, [.nilFunc]⟩)]
theorem tiok : TIok Try.prog ti :=
  ⟨by kernel_rfl, by kernel_rfl, by kernel_rfl, by kernel_rfl, by kernel_rfl, by kernel_rfl, by kernel_rfl, by kernel_rfl, by kernel_rfl, by kernel_rfl, by kernel_rfl, by kernel_rfl, by kernel_rfl, by kernel_rfl, by kernel_rfl, by kernel_rfl, by kernel_rfl, by kernel_rfl, by kernel_rfl, by kernel_rfl, by kernel_rfl, by kernel_rfl, by kernel_rfl, by kernel_rfl, by kernel_rfl, by kernel_rfl, by kernel_rfl, by kernel_rfl, by kernel_rfl, by kernel_rfl, by kernel_rfl, by kernel_rfl, by kernel_rfl, by kernel_rfl, by kernel_rfl, by kernel_rfl, by kernel_rfl, by kernel_rfl, by kernel_rfl, by kernel_rfl, by kernel_rfl, by kernel_rfl, by kernel_rfl, by kernel_rfl, by kernel_rfl, by kernel_rfl, by kernel_rfl, by kernel_rfl, by kernel_rfl, by kernel_rfl, by kernel_rfl, by kernel_rfl, by kernel_rfl, by kernel_rfl, by kernel_rfl, by kernel_rfl, by kernel_rfl, by kernel_rfl, by kernel_rfl, by kernel_rfl, by kernel_rfl, by kernel_rfl, by kernel_rfl, by kernel_rfl, by kernel_rfl, by kernel_rfl, by kernel_rfl, by kernel_rfl, by kernel_rfl, by kernel_rfl, by kernel_rfl, by kernel_rfl, by kernel_rfl, by kernel_rfl, by kernel_rfl, by kernel_rfl, by kernel_rfl, by kernel_rfl, by kernel_rfl, by kernel_rfl, by kernel_rfl, by kernel_rfl, by kernel_rfl, by kernel_rfl, by kernel_rfl, by kernel_rfl, by kernel_rfl, by kernel_rfl, by kernel_rfl, by kernel_rfl, by kernel_rfl, by kernel_rfl, by kernel_rfl, by kernel_rfl, by kernel_rfl, by kernel_rfl, by kernel_rfl, by kernel_rfl, by kernel_rfl, by kernel_rfl, by kernel_rfl, by kernel_rfl, by kernel_rfl, by kernel_rfl, by kernel_rfl, by kernel_rfl, by kernel_rfl, by kernel_rfl, by kernel_rfl, by kernel_rfl, by kernel_rfl, by kernel_rfl, by kernel_rfl, by kernel_rfl, by kernel_rfl, by kernel_rfl, by kernel_rfl, by kernel_rfl, by kernel_rfl, by kernel_rfl, by kernel_rfl, trivial⟩
/-- The context of a function with so many registers. -/
noncomputable abbrev K (N : Nat) (W : World) (fr : List HP) : Ctx := ⟨Try.prog, ti, tiok, none, N, [], W, fr⟩
end Go.Proofs.Ytahfnbpbdnmggaa
/-
  Our own: heads and their words: what heap.good, heap.Pack, heap.Unpack do.
-/
set_option linter.unusedVariables false
set_option linter.unusedSimpArgs false
namespace Go.Proofs.Ytahfnbpbdnmggaa
open Go.Sep
abbrev headV (k n p : Int) : Value := .agg #[.int .i64 k, .int .i64 n, .int .i64 p]
def goodB (k n p : Int) : Bool := decide (0 ≤ k ∧ k ≤ 15 ∧ 0 ≤ n ∧ n ≤ 4095 ∧ 0 ≤ p ∧ p ≤ n ∧ (k ≠ 15 ∨ p = 0))
def packI (k n p : Int) : Int := k + 16 * (p + 4096 * n)
/-- A number of Go's. -/
def In64 (n : Int) : Prop := -9223372036854775808 ≤ n ∧ n ≤ 9223372036854775807
set_option maxHeartbeats 1000000 in
theorem good_spec (k n p : Int) : Does Try.prog 73 [headV k n p] [] (fun v l => v = .bool (goodB k n p) ∧ l = []) := by
  refine Does.of tiok Try.func73 (by kernel_rfl) rfl Try.ntmps73 rfl ?_
  intro W fr
  repeat' (first | (refine IsO ?_; first | refine JO_nil ?_ | (refine IsG ?_; refine G1 rfl rfl ?_) | (refine IsMove ?_; first | refine M5 rfl rfl rfl (fun _ => ?_) (fun _ => ?_) | refine M6 rfl rfl rfl (fun _ => ?_) (fun _ => ?_)) | (refine IsLoad ?_; refine L1 rfl rfl rfl rfl ?_) | (refine IsBox ?_; refine N1 rfl rfl rfl rfl (fun _ => ?_)) | refine V1 rfl rfl rfl ?_) | (refine IsAt ?_; (with_reducible refine T1 ?_)) | (refine IsJ ?_; first | refine J_seq ?_ | refine J_region ?_ | refine J_ret ?_))
  all_goals refine At_ret1 rfl rfl rfl (is := []) rfl ⟨?_, rfl⟩
  all_goals (refine congrArg Value.bool ?_; unfold goodB; first | exact (decide_eq_true (by omega)).symm | exact (decide_eq_false (by omega)).symm | exact decide_eq_decide.2 (by omega))
set_option maxHeartbeats 1000000 in
theorem Pack_spec (k n p : Int) : Does Try.prog 55 [headV k n p] [] (fun v l => v = .tuple #[.int .i64 (if goodB k n p then packI k n p else 0), .int .i64 (if goodB k n p then 0 else 1)] ∧ l = []) := by
  refine Does.of tiok Try.func55 (by kernel_rfl) rfl Try.ntmps55 rfl ?_
  intro W fr
  repeat' (first | (refine IsO ?_; first | refine JO_nil ?_ | (refine IsBin ?_; first | refine B1 rfl rfl rfl rfl ?_ | refine B3 rfl rfl rfl rfl ?_) | (refine IsLoad ?_; first | refine L1 rfl rfl rfl rfl ?_ | refine L2 rfl rfl rfl rfl rfl ?_) | (refine IsBox ?_; refine N1 rfl rfl rfl rfl (fun _ => ?_)) | refine V1 rfl rfl rfl ?_) | (refine IsAt ?_; (with_reducible first | refine T1 ?_ | refine T2 ?_)) | (refine IsJ ?_; first | refine J_seq ?_ | refine J_region ?_ | refine J_skip ?_ | refine J_ret ?_ | (refine IsCond ?_; first | refine J_cond_t rfl ?_ | refine J_cond_f rfl ?_)))
  refine JO_l (OL_call [] rfl rfl rfl (good_spec _ _ _) rfl) rfl rfl ?_; rintro _ _ ⟨_, ⟨rfl, rfl⟩, rfl⟩
  cases hg : goodB k n p
  · repeat' (first | (refine IsO ?_; first | refine JO_nil ?_ | (refine IsBin ?_; first | refine B1 rfl rfl rfl rfl ?_ | refine B3 rfl rfl rfl rfl ?_) | (refine IsLoad ?_; first | refine L1 rfl rfl rfl rfl ?_ | refine L2 rfl rfl rfl rfl rfl ?_) | (refine IsBox ?_; refine N1 rfl rfl rfl rfl (fun _ => ?_)) | refine V1 rfl rfl rfl ?_) | (refine IsAt ?_; (with_reducible first | refine T1 ?_ | refine T2 ?_)) | (refine IsJ ?_; first | refine J_seq ?_ | refine J_region ?_ | refine J_skip ?_ | refine J_ret ?_ | (refine IsCond ?_; first | refine J_cond_t rfl ?_ | refine J_cond_f rfl ?_)))
    exact At_ret2 rfl rfl rfl rfl (is := []) rfl ⟨rfl, rfl⟩
  · have hg' := of_decide_eq_true hg
    repeat' (first | (refine IsO ?_; first | refine JO_nil ?_ | (refine IsBin ?_; first | refine B1 rfl rfl rfl rfl ?_ | refine B3 rfl rfl rfl rfl ?_) | (refine IsLoad ?_; first | refine L1 rfl rfl rfl rfl ?_ | refine L2 rfl rfl rfl rfl rfl ?_) | (refine IsBox ?_; refine N1 rfl rfl rfl rfl (fun _ => ?_)) | refine V1 rfl rfl rfl ?_) | (refine IsAt ?_; (with_reducible first | refine T1 ?_ | refine T2 ?_)) | (refine IsJ ?_; first | refine J_seq ?_ | refine J_region ?_ | refine J_skip ?_ | refine J_ret ?_ | (refine IsCond ?_; first | refine J_cond_t rfl ?_ | refine J_cond_f rfl ?_)))
    exact At_ret2 rfl rfl rfl rfl (is := []) rfl ⟨rfl, rfl⟩
theorem Pack_good {k n p : Int} (h : goodB k n p = true) : Does Try.prog 55 [headV k n p] [] (fun v l => v = .tuple #[.int .i64 (packI k n p), .int .i64 0] ∧ l = []) :=
  (Pack_spec k n p).to (by rw [if_pos h, if_pos h])
def unK (w : Int) : Int := w % 16
def unP (w : Int) : Int := w / 16 % 4096
def unN (w : Int) : Int := w / 16 / 4096
/-- Is it some head's word? -/
def wordB (w : Int) : Bool := decide (0 ≤ w) && goodB (unK w) (unN w) (unP w)
def unV (w : Int) : Value := if wordB w then headV (unK w) (unN w) (unP w) else headV 0 0 0
set_option maxHeartbeats 1000000 in
theorem Unpack_spec (w : Int) (hw : In64 w) : Does Try.prog 53 [.int .i64 w] [] (fun v l => v = .tuple #[unV w, .int .i64 (if wordB w then 0 else 2)] ∧ l = []) := by
  obtain ⟨h1, h2⟩ := hw
  refine Does.of tiok Try.func53 (by kernel_rfl) rfl Try.ntmps53 rfl ?_
  intro W fr
  repeat' (first | (refine IsO ?_; first | refine JO_nil ?_ | (refine IsBin ?_; first | refine B4 rfl rfl rfl rfl ?_ | refine B5 rfl rfl rfl rfl ?_) | (refine IsLoad ?_; refine L2 rfl rfl rfl rfl rfl ?_) | (refine IsStore ?_; refine S1 rfl rfl rfl rfl rfl rfl rfl (fun _ => ?_)) | (refine IsAlloc ?_; refine N2 rfl rfl rfl rfl (fun _ => ?_)) | (refine IsBuild ?_; refine U1 rfl rfl rfl rfl rfl rfl ?_) | refine V1 rfl rfl rfl ?_) | (refine IsAt ?_; (with_reducible first | refine T1 ?_ | refine T2 ?_)) | (refine IsJ ?_; first | refine J_seq ?_ | refine J_region ?_ | refine J_skip ?_ | refine J_ret ?_ | (refine IsCond ?_; first | refine J_cond_t rfl ?_ | refine J_cond_f rfl ?_ | refine J_cb rfl (fun _ => ?_) (fun _ => ?_))))
  · have e : wordB w = false := by unfold wordB; rw [decide_eq_false (by omega)]; rfl
    exact At_ret rfl rfl (.agg rfl rfl rfl (by repeat (first | exact .head _ | refine .tail _ ?_)) rfl (.tmp rfl .nil)) rfl (is := []) rfl ⟨by unfold unV; rw [e]; rfl, rfl⟩
  · refine JO_l (OL_call [] rfl rfl rfl (good_spec _ _ _) rfl) rfl rfl ?_; rintro _ _ ⟨_, ⟨rfl, rfl⟩, rfl⟩
    have h0 : 0 ≤ w := by omega
    cases hg : goodB (w % 16) (w / 16 / 4096) (w / 16 % 4096)
    · have e : wordB w = false := by unfold wordB unK unN unP; rw [hg]; simp
      repeat' (first | (refine IsO ?_; first | refine JO_nil ?_ | (refine IsBin ?_; first | refine B4 rfl rfl rfl rfl ?_ | refine B5 rfl rfl rfl rfl ?_) | (refine IsLoad ?_; refine L2 rfl rfl rfl rfl rfl ?_) | (refine IsStore ?_; refine S1 rfl rfl rfl rfl rfl rfl rfl (fun _ => ?_)) | (refine IsAlloc ?_; refine N2 rfl rfl rfl rfl (fun _ => ?_)) | (refine IsBuild ?_; refine U1 rfl rfl rfl rfl rfl rfl ?_) | refine V1 rfl rfl rfl ?_) | (refine IsAt ?_; (with_reducible first | refine T1 ?_ | refine T2 ?_)) | (refine IsJ ?_; first | refine J_seq ?_ | refine J_region ?_ | refine J_skip ?_ | refine J_ret ?_ | (refine IsCond ?_; first | refine J_cond_t rfl ?_ | refine J_cond_f rfl ?_ | refine J_cb rfl (fun _ => ?_) (fun _ => ?_))))
      exact At_ret rfl rfl (.agg rfl rfl rfl (by repeat (first | exact .head _ | refine .tail _ ?_)) rfl (.tmp rfl .nil)) rfl (is := []) rfl ⟨by unfold unV; rw [e]; rfl, rfl⟩
    · have e : wordB w = true := by unfold wordB unK unN unP; rw [hg, decide_eq_true h0]; rfl
      repeat' (first | (refine IsO ?_; first | refine JO_nil ?_ | (refine IsBin ?_; first | refine B4 rfl rfl rfl rfl ?_ | refine B5 rfl rfl rfl rfl ?_) | (refine IsLoad ?_; refine L2 rfl rfl rfl rfl rfl ?_) | (refine IsStore ?_; refine S1 rfl rfl rfl rfl rfl rfl rfl (fun _ => ?_)) | (refine IsAlloc ?_; refine N2 rfl rfl rfl rfl (fun _ => ?_)) | (refine IsBuild ?_; refine U1 rfl rfl rfl rfl rfl rfl ?_) | refine V1 rfl rfl rfl ?_) | (refine IsAt ?_; (with_reducible first | refine T1 ?_ | refine T2 ?_)) | (refine IsJ ?_; first | refine J_seq ?_ | refine J_region ?_ | refine J_skip ?_ | refine J_ret ?_ | (refine IsCond ?_; first | refine J_cond_t rfl ?_ | refine J_cond_f rfl ?_ | refine J_cb rfl (fun _ => ?_) (fun _ => ?_))))
      exact At_ret rfl rfl (.agg rfl rfl rfl (by repeat (first | exact .head _ | refine .tail _ ?_)) rfl (.tmp rfl .nil)) rfl (is := []) rfl ⟨by unfold unV; rw [e]; rfl, rfl⟩
theorem Unpack_good {w : Int} (hw : In64 w) (h : wordB w = true) : Does Try.prog 53 [.int .i64 w] [] (fun v l => v = .tuple #[headV (unK w) (unN w) (unP w), .int .i64 0] ∧ l = []) :=
  (Unpack_spec w hw).to (by unfold unV; rw [if_pos h, if_pos h])
theorem Unpack_bad {w : Int} (hw : In64 w) (h : wordB w = false) : Does Try.prog 53 [.int .i64 w] [] (fun v l => v = .tuple #[headV 0 0 0, .int .i64 2] ∧ l = []) :=
  (Unpack_spec w hw).to (by unfold unV; rw [h]; rfl)
/-! what a head, and its word, are of each other -/
theorem packI_un {k n p : Int} (h : goodB k n p = true) : In64 (packI k n p) ∧ wordB (packI k n p) = true ∧ unK (packI k n p) = k ∧ unN (packI k n p) = n ∧ unP (packI k n p) = p := by
  have hg := of_decide_eq_true h
  have e1 : unK (packI k n p) = k := by unfold unK packI; omega
  have e2 : unN (packI k n p) = n := by unfold unN packI; omega
  have e3 : unP (packI k n p) = p := by unfold unP packI; omega
  have e0 : wordB (packI k n p) = true := by
    unfold wordB; rw [e1, e2, e3, h, decide_eq_true (by unfold packI; omega)]; rfl
  exact ⟨⟨by unfold packI; omega, by unfold packI; omega⟩, e0, e1, e2, e3⟩
theorem un_packI {w : Int} (h : wordB w = true) : packI (unK w) (unN w) (unP w) = w ∧ goodB (unK w) (unN w) (unP w) = true ∧ 0 ≤ w := by
  unfold wordB at h
  obtain ⟨h0, h1⟩ := Bool.and_eq_true_iff.1 h
  have h0 : 0 ≤ w := of_decide_eq_true h0
  exact ⟨by unfold packI unK unN unP; omega, h1, h0⟩
end Go.Proofs.Ytahfnbpbdnmggaa
/-
  Our own: what all rows of the seat need: heads that are handed in.
-/
set_option linter.unusedVariables false
namespace Go.Proofs.Ytahfnbpbdnmggaa
open Go.Sep Go.ChangeShapes Go.WideShapes Go.ChangeAt Go.RowKit
theorem ownGodebug : ownKnob Try.prog.godebug = none := by kernel_rfl
theorem laidOut : laidOutB Try.prog = true := by kernel_rfl
end Go.Proofs.Ytahfnbpbdnmggaa
/-
  Our own: structs of numbers, whatever structs they are nested in, that are handed in: the numbers.
-/
set_option linter.unusedVariables false
namespace Go.Sep
open Go.ChangeShapes Go.WideShapes Go.ChangeAt Go.RowKit Go.Joins Go.Deep
section
variable {H : Type} {enc : TypeId × Value → H} {P : Program} {W : World} {base : Nat} {sp : Nat → Bool} {held : Bool}
end
/-- One element's cells. -/
theorem flat_take {α : Type} {f : α → List Value} {sz : Nat} {ys : List α} (hf : ∀ y ∈ ys, (f y).length = sz) {i : Nat} {y : α} (h : ys[i]? = some y) : takeL (ys.flatMap f) (i * sz) sz = some (f y) := by
  have hi := (List.getElem?_eq_some_iff.1 h).1
  have hl := flat_len hf
  have hy : (f y).length = sz := hf y (List.mem_of_getElem? h)
  have hle : i * sz + sz ≤ ys.length * sz := by
    have := Nat.mul_le_mul_right sz hi
    rw [Nat.succ_eq_add_one, Nat.add_mul, Nat.one_mul] at this; exact this
  rw [takeL_eq (by omega)]
  congr 1
  apply List.ext_getElem?
  intro r
  by_cases hr : r < sz
  · rw [List.getElem?_take_of_lt hr, List.getElem?_drop, flat_get hf h hr]
  · rw [List.getElem?_eq_none (l := f y) (by omega), List.getElem?_eq_none]
    simp; omega
end Go.Sep
/-
  Our own: slices of structs that hold slices of numbers, handed in: what they hold.
-/
set_option linter.unusedVariables false
namespace Go.Sep
open Go.ChangeShapes Go.WideShapes Go.ChangeAt Go.RowKit Go.Joins Go.Deep
section
variable {H : Type} {enc : TypeId × Value → H} {P : Program} {W : World} {base : Nat} {sp : Nat → Bool} {held : Bool}
/-- A slice among the cells that are handed in, and its elements. -/
theorem open_sliceC {α : Type} (f : α → List Value) (Q : α → Prop) {t e sz fuel : Nat} {cs0 : List Value} {x0 : DataW H × List MemPlace} (ht : P.underlying t = some (.slice e)) (hsz : P.cellsOf e = sz) (hpos : 0 < sz)
    (rd : ∀ n cs x, cs.length = sz → DataW.trod enc P W base sp held n e cs = some x → ∃ y, cs = f y ∧ Q y) (hf : DataW.trod enc P W base sp held fuel t cs0 = some x0) :
    ∃ a m cap, ∃ ys : List α, cs0 = [.slice a m cap] ∧ ys.length = m ∧ Reads (Low W) sz m a cap (ys.flatMap f) ∧ (∀ y ∈ ys, Q y) ∧ m ≤ cap ∧ cap ≤ maxLen := by
  rcases DataW.trod_slice ht hf with ⟨hc, _⟩ | ⟨a', len, cap', elems, rest, n, _, hc, _, hb, hlc, hcm, hlen, hel, _⟩
  · subst hc
    exact ⟨none, 0, 0, [], rfl, rfl, Reads.nil, (fun y hy => by cases hy), Nat.le_refl _, by decide⟩
  · subst hc
    obtain ⟨m, hm0⟩ : ∃ m, m = len := ⟨_, rfl⟩
    obtain ⟨cap, hc0⟩ : ∃ c, c = cap' := ⟨_, rfl⟩
    subst hm0 hc0
    have key : ∀ i, i < m → ∃ y, Q y ∧ (f y).length = sz ∧ a'.block < W.heap.size ∧ ∀ j, j < sz → W.cell? ((a'.add (i * sz)).add j) = (f y)[j]? := by
      intro i hi
      have h1 := hel i hi
      rw [hsz] at h1
      obtain ⟨x, hx⟩ : ∃ x, elems[i]? = some x := ⟨elems[i]'(by omega), List.getElem?_eq_getElem _⟩
      rw [hx] at h1
      obtain ⟨cs, hcs, hxx⟩ := Option.bind_eq_some_iff.1 h1
      obtain ⟨_, hl, hcell⟩ := World.cells?_some hcs
      obtain ⟨y, rfl, hy⟩ := rd _ _ _ hl hxx
      have e : (a'.add (i * sz)).block = a'.block := by unfold Addr.add; split <;> rfl
      have hbk := World.cells?_block hcs hpos
      rw [e] at hbk
      exact ⟨y, hy, hl, hbk, hcell⟩
    obtain ⟨ys, hyl, hys⟩ := exists_list m key
    have hQ : ∀ y ∈ ys, Q y ∧ (f y).length = sz := fun y hy => by
      obtain ⟨i, hi⟩ := List.getElem?_of_mem hy
      exact ⟨(hys i y hi).1, (hys i y hi).2.1⟩
    refine ⟨some a', m, cap, ys, rfl, hyl, ?_, fun y hy => (hQ y hy).1, hlc, hcm⟩
    obtain ⟨b, o, spot⟩ := a'
    refine ⟨by rw [flat_len fun y hy => (hQ y hy).2, hyl], (fun h => by cases h), fun W' l w hs hm i hi => ?_⟩
    have hq : i / sz < m := (Nat.div_lt_iff_lt_mul hpos).2 hi
    obtain ⟨y, hy⟩ : ∃ y, ys[i / sz]? = some y := ⟨ys[i / sz]'(by omega), List.getElem?_eq_getElem _⟩
    obtain ⟨_, hfl, hbk, hcell⟩ := hys _ _ hy
    have hr : i % sz < sz := Nat.mod_lt _ hpos
    have h1 := hcell _ hr
    have hi' : i / sz * sz + i % sz = i := by rw [Nat.mul_comm]; exact Nat.div_add_mod ..
    have h2 := flat_get (f := f) (fun y hy => (hQ y hy).2) hy hr
    rw [hi'] at h2
    have hsp : spot = none := by
      cases spot with
      | none => rfl
      | some k =>
        obtain ⟨y0, hy0⟩ : ∃ y, ys[0]? = some y := ⟨ys[0]'(by rw [hyl]; exact Nat.lt_of_le_of_lt (Nat.zero_le _) hq), List.getElem?_eq_getElem _⟩
        obtain ⟨_, hfl0, _, hcell0⟩ := hys _ _ hy0
        have h0 := hcell0 0 hpos
        have e0 : ((⟨b, o, some k⟩ : Addr).add (0 * sz)).add 0 = ⟨b, o, some k⟩ := by simp [Addr.add]
        rw [e0] at h0
        have : W.cell? ⟨b, o, some k⟩ = none := by simp [World.cell?]; split <;> simp
        rw [this, List.getElem?_eq_getElem (by omega)] at h0
        cases h0
    subst hsp
    have h3 : W.cell? ⟨b, o + i, none⟩ = (ys.flatMap f)[i]? := by
      rw [h2, ← h1, addr_add, addr_add]; congr 2; omega
    refine ⟨b, o, rfl, ?_⟩
    rw [← h3]
    exact World.cell?_of_block (w := W) (hs.low hm hbk)
/-- A node: two numbers, and numbers between them. -/
structure ND where
  k : Int
  es : List Int
  ea : Option Addr
  ec : Nat
  m : Int
abbrev u8V (zs : List Int) : List Value := zs.map (Value.int .u8)
abbrev cellsN (y : ND) : List Value := [.int .u8 y.k, .slice y.ea y.es.length y.ec, .int .u8 y.m]
structure NOk (R : HP) (y : ND) : Prop where
  k0 : 0 ≤ y.k
  k1 : y.k ≤ 255
  m0 : 0 ≤ y.m
  m1 : y.m ≤ 255
  eb : ∀ z ∈ y.es, 0 ≤ z ∧ z ≤ 255
  rd : Reads R 1 y.es.length y.ea y.ec (u8V y.es)
/-- A graph: nodes, and numbers. -/
structure GG where
  ns : List ND
  na : Option Addr
  nc : Nat
  rs : List Int
  ra : Option Addr
  rc : Nat
abbrev gV (g : GG) : Value := .agg #[.slice g.na g.ns.length g.nc, .slice g.ra g.rs.length g.rc]
structure GOk (R : HP) (g : GG) : Prop where
  nd : ∀ y ∈ g.ns, NOk R y
  rn : Reads R 3 g.ns.length g.na g.nc (g.ns.flatMap cellsN)
  nl : g.ns.length ≤ 9223372036854775807
  rr : Reads R 1 g.rs.length g.ra g.rc (u8V g.rs)
  rb : ∀ z ∈ g.rs, 0 ≤ z ∧ z ≤ 255
  rl : g.rs.length ≤ 9223372036854775807
theorem u8_wf {z : Int} (h : (Lit.int .u8 z).wf = true) : 0 ≤ z ∧ z ≤ 255 := bounds_u8 h
theorem open_u8C {t e fuel : Nat} {cs : List Value} {x : DataW H × List MemPlace} (ht : P.underlying t = some (.slice e)) (he : P.underlying e = some (.int .u8)) (hsz : P.cellsOf e = 1) (h : DataW.trod enc P W base sp held fuel t cs = some x) :
    ∃ a cap, ∃ zs : List Int, cs = [.slice a zs.length cap] ∧ Reads (Low W) 1 zs.length a cap (u8V zs) ∧ (∀ z ∈ zs, 0 ≤ z ∧ z ≤ 255) ∧ zs.length ≤ 9223372036854775807 := by
  obtain ⟨a, m, cap, zs, rfl, rfl, h1, h2, h3, h4⟩ := open_sliceC (fun z => [Value.int .u8 z]) (fun z => (Lit.int .u8 z).wf = true) ht hsz (by decide) (fun n cs x hl hx => by
    obtain ⟨c, rfl⟩ := List.length_eq_one_iff.1 hl
    obtain ⟨m, rfl, hm⟩ := trod_int he hx
    exact ⟨m, rfl, hm⟩) h
  rw [flat_map] at h1
  exact ⟨a, cap, zs, rfl, h1, fun z hz => u8_wf (h2 z hz), Nat.le_trans h3 (Nat.le_trans h4 (by decide))⟩
theorem open_graph {r : Reach} {b0 : Nat} {t e tu : Nat} {f0 f1 n0 n1 n2 : Field} {v : Value} {d : DataW H} {p : List MemPlace} (hu : P.underlying t = some (.struct #[f0, f1])) (hC : P.cellsOf t = 2) (o0 : f0.offset = 0) (o1 : f1.offset = 1) (c0 : P.cellsOf f0.type = 1) (c1 : P.cellsOf f1.type = 1)
    (hn : P.underlying f0.type = some (.slice e)) (hs1 : P.underlying f1.type = some (.slice tu)) (hu8 : P.underlying tu = some (.int .u8)) (hc8 : P.cellsOf tu = 1)
    (he : P.underlying e = some (.struct #[n0, n1, n2])) (hce : P.cellsOf e = 3) (q0 : n0.offset = 0) (q1 : n1.offset = 1) (q2 : n2.offset = 2) (d0 : P.cellsOf n0.type = 1) (d1 : P.cellsOf n1.type = 1) (d2 : P.cellsOf n2.type = 1)
    (u0 : P.underlying n0.type = some (.int .u8)) (u1 : P.underlying n1.type = some (.slice tu)) (u2 : P.underlying n2.type = some (.int .u8))
    (hv : Value.okWide P W r b0 t v) (h : DataW.Trod enc P W base sp held t v d p) : ∃ g : GG, v = gV g ∧ GOk (Low W) g := by
  obtain ⟨cs, rfl, hs⟩ := okWide_struct hu hv
  obtain ⟨fuel, hf⟩ := h
  have hcs : (Value.cells (.agg cs)).toList = cs.toList := by simp [Value.cells]
  rw [hcs] at hf
  obtain ⟨y0, y1, m, _, hl, g0, g1⟩ := trod_struct2 hu hf
  obtain ⟨x0, x1, hc⟩ : ∃ c0 c1, cs.toList = [c0, c1] := by
    rw [hC] at hl
    match hm : cs.toList, hl with
    | [a, b], _ => exact ⟨a, b, rfl⟩
  rw [hc, o0, c0] at g0
  rw [hc, o1, c1] at g1
  obtain ⟨ra, rc, rs, e1, r1, r2, r3⟩ := open_u8C hs1 hu8 hc8 g1
  obtain ⟨na, nm, nc, ns, e0, rfl, k1, k2, k3, k4⟩ := open_sliceC cellsN (NOk (Low W)) hn hce (by decide) (fun n cs x hl hx => by
    obtain ⟨z0, z1, z2, m2, _, _, a0, a1, a2⟩ := trod_struct3 he hx
    obtain ⟨v0, v1, v2, rfl⟩ : ∃ a b c, cs = [a, b, c] := by
      match cs, hl with
      | [a, b, c], _ => exact ⟨a, b, c, rfl⟩
    rw [q0, d0] at a0
    rw [q1, d1] at a1
    rw [q2, d2] at a2
    obtain ⟨i0, rfl, w0⟩ := trod_int u0 (v := v0) a0
    obtain ⟨i2, rfl, w2⟩ := trod_int u2 (v := v2) a2
    obtain ⟨ea, ec, es, ee, b1, b2, _⟩ := open_u8C u1 hu8 hc8 a1
    injection ee with ee
    subst ee
    exact ⟨⟨i0, es, ea, ec, i2⟩, rfl, ⟨(u8_wf w0).1, (u8_wf w0).2, (u8_wf w2).1, (u8_wf w2).2, b2, b1⟩⟩) g0
  injection e0 with e0
  injection e1 with e1
  subst e0 e1
  refine ⟨⟨ns, na, nc, rs, ra, rc⟩, ?_, ⟨k2, k1, Nat.le_trans k3 (Nat.le_trans k4 (by decide)), r1, r2, r3⟩⟩
  congr 1
  apply Array.ext'
  exact hc
/-- An array of numbers. -/
theorem open_arrN {r : Reach} {b0 n : Nat} {k : IntKind} {t e : TypeId} {v : Value} {d : DataW H} {p : List MemPlace}
    (ht : P.underlying t = some (.array n e)) (he : P.underlying e = some (.int k)) (hC : P.cellsOf t = n) (hE : P.cellsOf e = 1)
    (hv : Value.okWide P W r b0 t v) (h : DataW.Trod enc P W base sp held t v d p) : ∃ ns : List Int, v = .agg (ns.map (Value.int k)).toArray ∧ ns.length = n ∧ ∀ z ∈ ns, (Lit.int k z).wf = true := by
  simp only [Value.okWide, ht] at hv
  obtain ⟨cs, rfl, hs, _⟩ := hv
  obtain ⟨fuel, hf⟩ := h
  have hcs : (Value.cells (.agg cs)).toList = cs.toList := by simp [Value.cells]
  rw [hcs] at hf
  obtain ⟨xs, m, _, _, hl, hxl, hget⟩ := DataW.trod_array ht hf
  have hln : cs.toList.length = n := by simpa using hs.trans hC
  have key : ∀ i, i < n → ∃ z : Int, (Lit.int k z).wf = true ∧ cs.toList[i]? = some (.int k z) := by
    intro i hi
    have g := hget i hi
    rw [hE, Nat.mul_one, List.getElem?_eq_getElem (by omega)] at g
    obtain ⟨v, hv⟩ : ∃ v, cs.toList[i]? = some v := ⟨cs.toList[i]'(by omega), List.getElem?_eq_getElem _⟩
    have e : (cs.toList.drop i).take 1 = [v] := by
      have hi' : i < cs.toList.length := by omega
      rw [List.drop_eq_getElem_cons hi', List.take_succ_cons, List.take_zero]
      rw [List.getElem?_eq_getElem hi'] at hv
      injection hv with hv
      rw [hv]
    rw [e] at g
    obtain ⟨z, rfl, wz⟩ := trod_int he (n := m) (v := v) g
    exact ⟨z, wz, hv⟩
  obtain ⟨ns, hnl, hns⟩ := exists_list n key
  refine ⟨ns, ?_, hnl, fun z hz => ?_⟩
  · congr 1
    apply Array.ext'
    refine List.ext_getElem? fun i => ?_
    rw [List.getElem?_map]
    by_cases hi : i < n
    · obtain ⟨z, hz⟩ : ∃ z, ns[i]? = some z := ⟨ns[i]'(by omega), List.getElem?_eq_getElem _⟩
      rw [hz, (hns i z hz).2]
      rfl
    · rw [List.getElem?_eq_none (by omega), List.getElem?_eq_none (by omega)]
      rfl
  · obtain ⟨i, hi⟩ := List.getElem?_of_mem hz
    exact (hns i z hi).1
end
end Go.Sep
/-
  Our own: graphs, and numbers beside them, that are handed in.
-/
set_option linter.unusedVariables false
namespace Go.Proofs.Ytahfnbpbdnmggaa
open Go.Sep Go.ChangeShapes Go.WideShapes Go.ChangeAt Go.RowKit
set_option maxRecDepth 100000 in
theorem open_gg {H : Type} {enc : TypeId × Value → H} {W : World} {base b0 : Nat} {sp : Nat → Bool} {held : Bool} {r : Reach} {v : Value} {d : DataW H} {p : List MemPlace} (hv : Value.okWide Try.prog W r b0 25 v)
    (h : DataW.Trod enc Try.prog W base sp held 25 v d p) : ∃ g : GG, v = gV g ∧ GOk (Low W) g :=
  open_graph Try.underlying25 (by kernel_rfl) rfl rfl (by kernel_rfl) (by kernel_rfl) Try.underlying22 Try.underlying23 Try.underlying5 (by kernel_rfl)
    Try.underlying78 (by kernel_rfl) rfl rfl rfl (by kernel_rfl) (by kernel_rfl) (by kernel_rfl) Try.underlying5 Try.underlying23 Try.underlying5 hv h
set_option maxRecDepth 100000 in
theorem open_u8s {H : Type} {enc : TypeId × Value → H} {W : World} {base b0 : Nat} {sp : Nat → Bool} {held : Bool} {r : Reach} {v : Value} {d : DataW H} {p : List MemPlace} (hv : Value.okWide Try.prog W r b0 23 v)
    (h : DataW.Trod enc Try.prog W base sp held 23 v d p) : ∃ (zs : List Int) (a : Option Addr) (c : Nat), v = .slice a zs.length c ∧ Reads (Low W) 1 zs.length a c (u8V zs) ∧ (∀ z ∈ zs, 0 ≤ z ∧ z ≤ 255) ∧ zs.length ≤ 9223372036854775807 := by
  obtain ⟨a, cap, zs, rfl, hR, hz, h1, h2⟩ := open_intSlice Try.underlying23 Try.underlying5 (by kernel_rfl) hv h
  exact ⟨zs, a, cap, rfl, hR, fun z hz2 => bounds_u8 (hz z hz2), Nat.le_trans h1 (Nat.le_trans h2 (by decide))⟩
end Go.Proofs.Ytahfnbpbdnmggaa
/-
  Our own: slices.Clone of numbers.
-/
set_option linter.unusedVariables false
set_option linter.unusedSimpArgs false
namespace Go.Proofs.Ytahfnbpbdnmggaa
open Go.Sep
set_option maxHeartbeats 1000000 in
theorem CloneI_spec {R : HP} {m cap : Nat} {a : Option Addr} {cs : List Value} (h : Reads R 1 m a cap cs) (hp : plainL cs = true) (hm : m ≤ 1000000000) :
    Does Try.prog 51 [.slice a m cap] [R] (fun v l => ∃ a' cap', (a' = none → m = 0 ∧ cap' = 0) ∧ v = .slice a' m cap' ∧ l = [row 3 1 a' m cap' cs, R]) := by
  refine Does.of tiok Try.func51 (by kernel_rfl) rfl Try.ntmps51 rfl ?_
  intro W fr
  cases a with
  | none =>
    obtain ⟨rfl, rfl⟩ := h.empty rfl
    have hcs : cs = [] := List.eq_nil_of_length_eq_zero (by simpa using h.len)
    subst hcs
    repeat' (first | (refine IsO ?_; first | refine JO_nil ?_ | (refine IsBin ?_; refine B9 rfl rfl rfl rfl rfl rfl rfl ?_) | refine V1 rfl rfl rfl ?_) | (refine IsAt ?_; (with_reducible first | refine T1 ?_ | refine T2 ?_)) | (refine IsJ ?_; first | refine J_seq ?_ | refine J_region ?_ | refine J_skip ?_ | refine J_ret ?_ | (refine IsCond ?_; first | refine J_cond_t rfl ?_ | refine J_cond_f rfl ?_)))
    exact At_ret' rfl rfl (.tmp rfl .nil) rfl (fun _ hl => row_nil hl) ⟨none, 0, fun _ => ⟨rfl, rfl⟩, rfl, rfl⟩
  | some a =>
    repeat' (first | (refine IsO ?_; first | refine JO_nil ?_ | (refine IsBin ?_; refine B9 rfl rfl rfl rfl rfl rfl rfl ?_) | refine V1 rfl rfl rfl ?_) | (refine IsAt ?_; (with_reducible first | refine T1 ?_ | refine T2 ?_)) | (refine IsJ ?_; first | refine J_seq ?_ | refine J_region ?_ | refine J_skip ?_ | refine J_ret ?_ | (refine IsCond ?_; first | refine J_cond_t rfl ?_ | refine J_cond_f rfl ?_)))
    refine JO_l (OL_buildSlice (cs := []) rfl rfl rfl rfl rfl rfl rfl rfl) rfl rfl ?_
    rintro _ _ ⟨b, rfl, rfl⟩
    repeat' (first | (refine IsO ?_; first | refine JO_nil ?_ | (refine IsBin ?_; refine B9 rfl rfl rfl rfl rfl rfl rfl ?_) | refine V1 rfl rfl rfl ?_) | (refine IsAt ?_; (with_reducible first | refine T1 ?_ | refine T2 ?_)) | (refine IsJ ?_; first | refine J_seq ?_ | refine J_region ?_ | refine J_skip ?_ | refine J_ret ?_ | (refine IsCond ?_; first | refine J_cond_t rfl ?_ | refine J_cond_f rfl ?_)))
    refine JO_hp (fun _ hl => row_full (n := 0) (sz := 1) hl rfl) ?_
    refine JO_l (OL_append rfl rfl rfl rfl rfl P0 (h.src (.tail _ (.head _))) hp rfl (fun _ h => by cases h) (by omega) (by omega) (by decide)) rfl rfl ?_
    rintro _ _ ⟨a', cap', rfl, rfl⟩
    rw [Nat.zero_add, List.nil_append]
    repeat' (first | (refine IsO ?_; first | refine JO_nil ?_ | (refine IsBin ?_; refine B9 rfl rfl rfl rfl rfl rfl rfl ?_) | refine V1 rfl rfl rfl ?_) | (refine IsAt ?_; (with_reducible first | refine T1 ?_ | refine T2 ?_)) | (refine IsJ ?_; first | refine J_seq ?_ | refine J_region ?_ | refine J_skip ?_ | refine J_ret ?_ | (refine IsCond ?_; first | refine J_cond_t rfl ?_ | refine J_cond_f rfl ?_)))
    refine At_row P0 fun hr => ?_
    exact At_ret rfl rfl (.tmp rfl .nil) rfl (is := [0, 0]) rfl ⟨a', cap', hr.2.1, rfl, rfl⟩
end Go.Proofs.Ytahfnbpbdnmggaa
/-
  Our own: heaps: what heap.New, Size, Top, Words, Head do.
-/
set_option linter.unusedVariables false
set_option linter.unusedSimpArgs false
namespace Go.Proofs.Ytahfnbpbdnmggaa
open Go.Sep
abbrev intsV (ws : List Int) : List Value := ws.map (Value.int .i64)
abbrev boolsV (bs : List Bool) : List Value := bs.map Value.bool
theorem plainL_ints (ws : List Int) : plainL (intsV ws) = true := by
  induction ws with
  | nil => rfl
  | cons w ws ih => exact ih
abbrev sl (b n : Nat) : Value := .slice (some ⟨b, 0, none⟩) n n
/-- A heap, at p: n words, how many are taken, where objects begin. -/
abbrev heapL (p bw bs n : Nat) (ws : List Int) (top : Int) (st : List Bool) : List HP :=
  [blk p [sl bw n, .int .i64 top, sl bs n] 91, blk bw (intsV ws) 3, blk bs (boolsV st) 4]
set_option maxHeartbeats 1000000 in
theorem heapNew_ok (n : Nat) (h0 : 1 ≤ n) (h1 : n ≤ 65536) : Does Try.prog 30 [.int .i64 n] [] (fun v l => ∃ p bw bs, v = .tuple #[ptr p 0, .int .i64 0] ∧ l = heapL p bw bs n (List.replicate n 0) 0 (List.replicate n false)) := by
  refine Does.of tiok Try.func30 (by kernel_rfl) rfl Try.ntmps30 rfl ?_
  intro W fr
  repeat' (first | (refine IsO ?_; first | refine JO_nil ?_ | (refine IsMove ?_; refine M2 rfl rfl rfl ?_) | refine V1 rfl rfl rfl ?_) | (refine IsAt ?_; (with_reducible refine T1 ?_)) | (refine IsJ ?_; first | refine J_seq ?_ | refine J_region ?_ | refine J_skip ?_ | refine J_ret ?_ | (refine IsCond ?_; refine K2 rfl ?_)))
  refine J_draw [0, 3, 0, 4, 0, 2, 0, 0] [0, 2, 1, 3, 4, 5, 6, 7] (by kernel_rfl) (by kernel_rfl) ?_
  repeat' (refine IsX ?_; first | (refine JX_nil ?_; refine At_np ?_) | (refine JX_op rfl ?_; refine XsO ?_; first | (refine XsBox ?_; refine XN1 rfl rfl rfl rfl rfl (fun _ => ?_)) | (refine XsBuild ?_; refine XU1 rfl rfl rfl rfl rfl rfl rfl ?_) | refine XV1 rfl rfl rfl rfl ?_))
  refine JX_two (R := fun v u l' => ∃ b c, v = .slice (some ⟨b, 0, none⟩) n n ∧ u = .slice (some ⟨c, 0, none⟩) n n ∧ l' = [blk b (List.replicate n (.int .i64 0)) 3, blk c (List.replicate n (.bool false)) 4]) rfl rfl rfl rfl rfl rfl rfl (fun _ => rfl) (fun _ => rfl) rfl rfl ?_ ?_ ?_
  · refine (OL_make rfl rfl rfl rfl (by omega) (by omega) (by omega)).to fun v l' hv => ⟨l', ?_, fun _ h => h⟩
    obtain ⟨b, rfl, rfl⟩ := hv
    rw [Int.toNat_natCast]
    refine (OL_make rfl rfl rfl rfl (by omega) (by omega) (by omega)).to fun u l' hu => ?_
    obtain ⟨c, rfl, rfl⟩ := hu
    rw [Int.toNat_natCast]
    exact ⟨_, ⟨b, c, rfl, rfl, rfl⟩, fun _ h => h.swap⟩
  · refine (OL_make rfl rfl rfl rfl (by omega) (by omega) (by omega)).to fun v l' hv => ⟨l', ?_, fun _ h => h⟩
    obtain ⟨b, rfl, rfl⟩ := hv
    rw [Int.toNat_natCast]
    refine (OL_make rfl rfl rfl rfl (by omega) (by omega) (by omega)).to fun u l' hu => ?_
    obtain ⟨c, rfl, rfl⟩ := hu
    rw [Int.toNat_natCast]
    exact ⟨_, ⟨c, b, rfl, rfl, rfl⟩, fun _ h => h⟩
  rintro _ _ _ ⟨b, c, rfl, rfl, rfl⟩
  repeat' (refine IsX ?_; first | (refine JX_nil ?_; refine At_np ?_) | (refine JX_op rfl ?_; refine XsO ?_; first | (refine XsBox ?_; refine XN1 rfl rfl rfl rfl rfl (fun _ => ?_)) | (refine XsBuild ?_; refine XU1 rfl rfl rfl rfl rfl rfl rfl ?_) | refine XV1 rfl rfl rfl rfl ?_))
  repeat' (first | (refine IsO ?_; first | refine JO_nil ?_ | (refine IsMove ?_; refine M2 rfl rfl rfl ?_) | refine V1 rfl rfl rfl ?_) | (refine IsAt ?_; (with_reducible refine T1 ?_)) | (refine IsJ ?_; first | refine J_seq ?_ | refine J_region ?_ | refine J_skip ?_ | refine J_ret ?_ | (refine IsCond ?_; refine K2 rfl ?_)))
  rename_i p
  refine At_ret' rfl rfl (.tmp rfl (.tmp rfl .nil)) rfl (fun H hl => ?_) ⟨p, b, c, rfl, rfl⟩
  have e : heapL p b c n (List.replicate n 0) 0 (List.replicate n false) = [blk p [sl b n, .int .i64 0, sl c n] 91, blk b (List.replicate n (.int .i64 0)) 3, blk c (List.replicate n (.bool false)) 4] := by simp [heapL, intsV, boolsV]
  rw [e]
  exact hl
section ops
variable {p bw bs n : Nat} {ws : List Int} {top : Int} {st : List Bool}
theorem heapSize : Does Try.prog 11 [ptr p 0] (heapL p bw bs n ws top st) (fun v l => v = .int .i64 n ∧ l = heapL p bw bs n ws top st) := by
  refine Does.of tiok Try.func11 (by kernel_rfl) rfl Try.ntmps11 rfl ?_
  intro W fr
  repeat' (first | (refine IsO ?_; first | refine JO_nil ?_ | (refine IsLoad ?_; refine L1 rfl rfl rfl rfl ?_) | refine V1 rfl rfl rfl ?_) | (refine IsAt ?_; (with_reducible refine T1 ?_)) | (refine IsJ ?_; first | refine J_seq ?_ | refine J_region ?_ | refine J_ret ?_))
  exact At_ret rfl rfl (.tmp rfl .nil) rfl (is := [0, 0, 0]) rfl ⟨rfl, rfl⟩
theorem heapTop : Does Try.prog 24 [ptr p 0] (heapL p bw bs n ws top st) (fun v l => v = .int .i64 top ∧ l = heapL p bw bs n ws top st) := by
  refine Does.of tiok Try.func24 (by kernel_rfl) rfl Try.ntmps24 rfl ?_
  intro W fr
  repeat' (first | (refine IsO ?_; first | refine JO_nil ?_ | (refine IsLoad ?_; refine L1 rfl rfl rfl rfl ?_) | refine V1 rfl rfl rfl ?_) | (refine IsAt ?_; (with_reducible refine T1 ?_)) | (refine IsJ ?_; first | refine J_seq ?_ | refine J_region ?_ | refine J_ret ?_))
  exact At_ret rfl rfl (.tmp rfl .nil) rfl (is := [0, 0, 0]) rfl ⟨rfl, rfl⟩
theorem heapWords (hn : ws.length = n) (h1 : n ≤ 65536) : Does Try.prog 23 [ptr p 0] (heapL p bw bs n ws top st)
    (fun v l => ∃ a' cap', (a' = none → n = 0 ∧ cap' = 0) ∧ v = .slice a' n cap' ∧ l = row 3 1 a' n cap' (intsV ws) :: heapL p bw bs n ws top st) := by
  refine Does.of tiok Try.func23 (by kernel_rfl) rfl Try.ntmps23 rfl ?_
  intro W fr
  repeat' (first | (refine IsO ?_; first | refine JO_nil ?_ | (refine IsLoad ?_; refine L1 rfl rfl rfl rfl ?_) | refine V1 rfl rfl rfl ?_) | (refine IsAt ?_; (with_reducible refine T1 ?_)) | (refine IsJ ?_; first | refine J_seq ?_ | refine J_region ?_ | refine J_ret ?_))
  refine JO_l (OL_call [1] rfl rfl rfl (CloneI_spec (Reads.blk (by simp [intsV, hn])) (plainL_ints ws) (by omega)) rfl) rfl rfl ?_
  rintro _ _ ⟨_, ⟨a', cap', hn, rfl, rfl⟩, rfl⟩
  repeat' (first | (refine IsO ?_; first | refine JO_nil ?_ | (refine IsLoad ?_; refine L1 rfl rfl rfl rfl ?_) | refine V1 rfl rfl rfl ?_) | (refine IsAt ?_; (with_reducible refine T1 ?_)) | (refine IsJ ?_; first | refine J_seq ?_ | refine J_region ?_ | refine J_ret ?_))
  exact At_ret rfl rfl (.tmp rfl .nil) rfl (is := [0, 1, 0, 0]) rfl ⟨a', cap', hn, rfl, rfl⟩
/-- No object begins there. -/
theorem heapHead_no (at_ : Int) (hst : st.length = n) (ht : top ≤ n) (h : ¬ (0 ≤ at_ ∧ at_ < top ∧ st[at_.toNat]? = some true)) : Does Try.prog 79 [ptr p 0, .int .i64 at_] (heapL p bw bs n ws top st)
    (fun v l => v = .tuple #[headV 0 0 0, .int .i64 3] ∧ l = heapL p bw bs n ws top st) := by
  refine Does.of tiok Try.func79 (by kernel_rfl) rfl Try.ntmps79 rfl ?_
  intro W fr
  by_cases hr : 0 ≤ at_ ∧ at_ < top
  · obtain ⟨i, rfl⟩ := Int.eq_ofNat_of_zero_le hr.1
    have hi : i < n := by omega
    have hs : st[i]? = some false := by
      cases hb : st[i]? with
      | none => rw [List.getElem?_eq_none_iff] at hb; omega
      | some b => cases b with
        | false => rfl
        | true => exact absurd ⟨hr.1, hr.2, hb⟩ h
    repeat' (first | (refine IsO ?_; first | refine JO_nil ?_ | (refine IsG ?_; refine G1 rfl rfl ?_) | (refine IsMove ?_; first | refine M1 rfl rfl rfl ?_ | refine M2 rfl rfl rfl ?_ | refine M5 rfl rfl rfl (fun _ => ?_) (fun _ => ?_)) | (refine IsLoad ?_; refine L1 rfl rfl rfl rfl ?_) | (refine IsStore ?_; refine S1 rfl rfl rfl rfl rfl rfl rfl (fun _ => ?_)) | (refine IsAlloc ?_; refine N2 rfl rfl rfl rfl (fun _ => ?_)) | (refine IsBuild ?_; refine U1 rfl rfl rfl rfl rfl rfl ?_) | refine V1 rfl rfl rfl ?_) | (refine IsAt ?_; (with_reducible first | refine T1 ?_ | refine T2 ?_)) | (refine IsJ ?_; first | refine J_seq ?_ | refine J_region ?_ | refine J_ret ?_ | (refine IsCond ?_; refine J_cond_t rfl ?_)))
    refine JO_val (OV_idx (off := i) rfl rfl rfl rfl (by omega) (by omega) (by simp)) rfl rfl ?_
    refine JO_q (OQ_load (v := .bool false) rfl rfl (by repeat (first | exact .head _ | refine .tail _ ?_)) (by simp [boolsV, hs])) rfl rfl ?_
    repeat' (first | (refine IsO ?_; first | refine JO_nil ?_ | (refine IsG ?_; refine G1 rfl rfl ?_) | (refine IsMove ?_; first | refine M1 rfl rfl rfl ?_ | refine M2 rfl rfl rfl ?_ | refine M5 rfl rfl rfl (fun _ => ?_) (fun _ => ?_)) | (refine IsLoad ?_; refine L1 rfl rfl rfl rfl ?_) | (refine IsStore ?_; refine S1 rfl rfl rfl rfl rfl rfl rfl (fun _ => ?_)) | (refine IsAlloc ?_; refine N2 rfl rfl rfl rfl (fun _ => ?_)) | (refine IsBuild ?_; refine U1 rfl rfl rfl rfl rfl rfl ?_) | refine V1 rfl rfl rfl ?_) | (refine IsAt ?_; (with_reducible first | refine T1 ?_ | refine T2 ?_)) | (refine IsJ ?_; first | refine J_seq ?_ | refine J_region ?_ | refine J_ret ?_ | (refine IsCond ?_; refine J_cond_t rfl ?_)))
    exact At_ret rfl rfl (.agg rfl rfl rfl (by repeat (first | exact .head _ | refine .tail _ ?_)) rfl (.tmp rfl .nil)) rfl (is := [1, 1, 1]) rfl ⟨rfl, rfl⟩
  · repeat' (first | (refine IsO ?_; first | refine JO_nil ?_ | (refine IsG ?_; refine G1 rfl rfl ?_) | (refine IsMove ?_; first | refine M1 rfl rfl rfl ?_ | refine M2 rfl rfl rfl ?_ | refine M5 rfl rfl rfl (fun _ => ?_) (fun _ => ?_)) | (refine IsLoad ?_; refine L1 rfl rfl rfl rfl ?_) | (refine IsStore ?_; refine S1 rfl rfl rfl rfl rfl rfl rfl (fun _ => ?_)) | (refine IsAlloc ?_; refine N2 rfl rfl rfl rfl (fun _ => ?_)) | (refine IsBuild ?_; refine U1 rfl rfl rfl rfl rfl rfl ?_) | refine V1 rfl rfl rfl ?_) | (refine IsAt ?_; (with_reducible first | refine T1 ?_ | refine T2 ?_)) | (refine IsJ ?_; first | refine J_seq ?_ | refine J_region ?_ | refine J_ret ?_ | (refine IsCond ?_; refine J_cond_t rfl ?_)))
    all_goals first | exact absurd (by omega) hr | exact At_ret rfl rfl (.agg rfl rfl rfl (by repeat (first | exact .head _ | refine .tail _ ?_)) rfl (.tmp rfl .nil)) rfl (is := [1, 1, 1]) rfl ⟨rfl, rfl⟩
theorem heapHead_ok (i : Nat) (w : Int) (hw : In64 w) (hst : st.length = n) (hl : ws.length = n) (ht : top ≤ n) (hi : (i : Int) < top) (hs : st[i]? = some true) (hwi : ws[i]? = some w) : Does Try.prog 79 [ptr p 0, .int .i64 i] (heapL p bw bs n ws top st)
    (fun v l => v = .tuple #[unV w, .int .i64 (if wordB w then 0 else 2)] ∧ l = heapL p bw bs n ws top st) := by
  refine Does.of tiok Try.func79 (by kernel_rfl) rfl Try.ntmps79 rfl ?_
  intro W fr
  repeat' (first | (refine IsO ?_; first | refine JO_nil ?_ | (refine IsMove ?_; refine M2 rfl rfl rfl ?_) | (refine IsLoad ?_; refine L1 rfl rfl rfl rfl ?_) | (refine IsStore ?_; refine S1 rfl rfl rfl rfl rfl rfl rfl (fun _ => ?_)) | (refine IsAlloc ?_; refine N2 rfl rfl rfl rfl (fun _ => ?_)) | refine V1 rfl rfl rfl ?_) | (refine IsAt ?_; (with_reducible refine T1 ?_)) | (refine IsJ ?_; first | refine J_seq ?_ | refine J_region ?_ | refine J_skip ?_ | refine J_ret ?_ | (refine IsCond ?_; refine J_cond_f rfl ?_)))
  refine JO_val (OV_idx (off := i) rfl rfl rfl rfl (by omega) (by omega) (by simp)) rfl rfl ?_
  refine JO_q (OQ_load (v := .bool true) rfl rfl (by repeat (first | exact .head _ | refine .tail _ ?_)) (by simp [boolsV, hs])) rfl rfl ?_
  repeat' (first | (refine IsO ?_; first | refine JO_nil ?_ | (refine IsMove ?_; refine M2 rfl rfl rfl ?_) | (refine IsLoad ?_; refine L1 rfl rfl rfl rfl ?_) | (refine IsStore ?_; refine S1 rfl rfl rfl rfl rfl rfl rfl (fun _ => ?_)) | (refine IsAlloc ?_; refine N2 rfl rfl rfl rfl (fun _ => ?_)) | refine V1 rfl rfl rfl ?_) | (refine IsAt ?_; (with_reducible refine T1 ?_)) | (refine IsJ ?_; first | refine J_seq ?_ | refine J_region ?_ | refine J_skip ?_ | refine J_ret ?_ | (refine IsCond ?_; refine J_cond_f rfl ?_)))
  refine JO_val (OV_idx (off := i) rfl rfl rfl rfl (by omega) (by omega) (by simp)) rfl rfl ?_
  refine JO_q (OQ_load (v := .int .i64 w) rfl rfl (by repeat (first | exact .head _ | refine .tail _ ?_)) (by simp [intsV, hwi])) rfl rfl ?_
  cases hg : wordB w
  · refine JO_l (OL_call [] rfl rfl rfl (Unpack_bad hw hg) rfl) rfl rfl ?_; rintro _ _ ⟨_, ⟨rfl, rfl⟩, rfl⟩
    repeat' (first | (refine IsO ?_; first | refine JO_nil ?_ | (refine IsMove ?_; refine M2 rfl rfl rfl ?_) | (refine IsLoad ?_; refine L1 rfl rfl rfl rfl ?_) | (refine IsStore ?_; refine S1 rfl rfl rfl rfl rfl rfl rfl (fun _ => ?_)) | (refine IsAlloc ?_; refine N2 rfl rfl rfl rfl (fun _ => ?_)) | refine V1 rfl rfl rfl ?_) | (refine IsAt ?_; (with_reducible refine T1 ?_)) | (refine IsJ ?_; first | refine J_seq ?_ | refine J_region ?_ | refine J_skip ?_ | refine J_ret ?_ | (refine IsCond ?_; refine J_cond_f rfl ?_)))
    exact At_ret rfl rfl (.agg rfl rfl rfl (by repeat (first | exact .head _ | refine .tail _ ?_)) rfl (.tmp rfl .nil)) rfl (is := [1, 1, 1]) rfl ⟨by unfold unV; rw [hg]; rfl, rfl⟩
  · refine JO_l (OL_call [] rfl rfl rfl (Unpack_good hw hg) rfl) rfl rfl ?_; rintro _ _ ⟨_, ⟨rfl, rfl⟩, rfl⟩
    repeat' (first | (refine IsO ?_; first | refine JO_nil ?_ | (refine IsMove ?_; refine M2 rfl rfl rfl ?_) | (refine IsLoad ?_; refine L1 rfl rfl rfl rfl ?_) | (refine IsStore ?_; refine S1 rfl rfl rfl rfl rfl rfl rfl (fun _ => ?_)) | (refine IsAlloc ?_; refine N2 rfl rfl rfl rfl (fun _ => ?_)) | refine V1 rfl rfl rfl ?_) | (refine IsAt ?_; (with_reducible refine T1 ?_)) | (refine IsJ ?_; first | refine J_seq ?_ | refine J_region ?_ | refine J_skip ?_ | refine J_ret ?_ | (refine IsCond ?_; refine J_cond_f rfl ?_)))
    exact At_ret rfl rfl (.agg rfl rfl rfl (by repeat (first | exact .head _ | refine .tail _ ?_)) rfl (.tmp rfl .nil)) rfl (is := [1, 1, 1]) rfl ⟨by unfold unV; rw [hg]; rfl, rfl⟩
end ops
end Go.Proofs.Ytahfnbpbdnmggaa
/-
  Our own: heaps: lay, Place.
-/
set_option linter.unusedVariables false
set_option linter.unusedSimpArgs false
namespace Go.Proofs.Ytahfnbpbdnmggaa
open Go.Sep
theorem putL_ints {ws : List Int} {i : Nat} (v : Int) (h : i < ws.length) : putL (intsV ws) i [.int .i64 v] = some (intsV (ws.set i v)) := by
  have e : put1 (intsV ws) i (.int .i64 v) = some ((intsV ws).set i (.int .i64 v)) := put1_set (by simpa [intsV] using h)
  simp only [putL, e]
  simp [intsV, List.map_set]
theorem putL_bools {bs : List Bool} {i : Nat} (v : Bool) (h : i < bs.length) : putL (boolsV bs) i [.bool v] = some (boolsV (bs.set i v)) := by
  have e : put1 (boolsV bs) i (.bool v) = some ((boolsV bs).set i (.bool v)) := put1_set (by simpa [boolsV] using h)
  simp only [putL, e]
  simp [boolsV, List.map_set]
/-- k noughts from i on. -/
def zeroAt (ws : List Int) (i k : Nat) : List Int := ws.take i ++ List.replicate k 0 ++ ws.drop (i + k)
theorem zeroAt_len {ws : List Int} {i k : Nat} (h : i + k ≤ ws.length) : (zeroAt ws i k).length = ws.length := by unfold zeroAt; simp; omega
theorem putL_zeros {ws : List Int} {i k : Nat} (h : i + k ≤ ws.length) : putL (intsV ws) i (List.replicate k (.int .i64 0)) = some (intsV (zeroAt ws i k)) := by
  rw [putL_split (by simp [intsV]; omega)]
  simp [intsV, zeroAt, List.map_take, List.map_drop]
section ops
variable {p bw bs n : Nat} {ws : List Int} {top : Int} {st : List Bool}
set_option maxHeartbeats 2000000 in
theorem lay_spec (i k : Nat) (kd pt : Int) (hg : goodB kd k pt = true) (hl : ws.length = n) (hst : st.length = n) (hn : n ≤ 65536) (hi : i + 1 + k ≤ n) :
    Does Try.prog 56 [ptr p 0, .int .i64 i, headV kd k pt] (heapL p bw bs n ws top st)
      (fun v l => v = .tuple #[] ∧ l = heapL p bw bs n (zeroAt (ws.set i (packI kd k pt)) (i + 1) k) top (st.set i true)) := by
  refine Does.of tiok Try.func56 (by kernel_rfl) rfl Try.ntmps56 rfl ?_
  intro W fr
  have hg' := of_decide_eq_true hg
  repeat' (first | (refine IsO ?_; first | refine JO_nil ?_ | (refine IsLoad ?_; refine L1 rfl rfl rfl rfl ?_) | (refine IsBox ?_; refine N1 rfl rfl rfl rfl (fun _ => ?_)) | refine V1 rfl rfl rfl ?_) | (refine IsAt ?_; (with_reducible refine T1 ?_)) | (refine IsJ ?_; first | refine J_seq ?_ | refine J_region ?_))
  refine J_draw [0, 0, 0, 1, 0, 1, 1, 0, 0, 0, 0, 2] [0, 1, 2, 3, 4, 5, 6, 7, 8, 9, 10, 11] (by kernel_rfl) (by kernel_rfl) ?_
  repeat' (refine IsX ?_; first | (refine JX_nil ?_; refine At_np ?_) | (refine JX_op rfl ?_; refine XsO ?_; first | (refine XsBin ?_; refine XB1 rfl rfl rfl rfl rfl ?_) | (refine XsLoad ?_; first | refine XL1 rfl rfl rfl rfl rfl ?_ | refine XL2 rfl rfl rfl rfl rfl rfl ?_) | refine XV1 rfl rfl rfl rfl ?_))
  refine JX_q rfl rfl (OQ_call [] rfl rfl rfl (Pack_good hg) rfl (by rintro _ _ ⟨rfl, rfl⟩; exact ⟨rfl, fun _ h => h⟩)) rfl rfl ?_
  repeat' (refine IsX ?_; first | (refine JX_nil ?_; refine At_np ?_) | (refine JX_op rfl ?_; refine XsO ?_; first | (refine XsBin ?_; refine XB1 rfl rfl rfl rfl rfl ?_) | (refine XsLoad ?_; first | refine XL1 rfl rfl rfl rfl rfl ?_ | refine XL2 rfl rfl rfl rfl rfl rfl ?_) | refine XV1 rfl rfl rfl rfl ?_))
  refine JX_val rfl rfl (OV_idx (off := i) rfl rfl rfl rfl (by omega) (by omega) (by simp)) rfl rfl ?_
  refine JX_l0 rfl rfl (OL_store rfl rfl rfl rfl rfl rfl P2 (putL_ints _ (by omega))) rfl ?_
  rintro _ _ rfl
  repeat' (refine IsX ?_; first | (refine JX_nil ?_; refine At_np ?_) | (refine JX_op rfl ?_; refine XsO ?_; first | (refine XsBin ?_; refine XB1 rfl rfl rfl rfl rfl ?_) | (refine XsLoad ?_; first | refine XL1 rfl rfl rfl rfl rfl ?_ | refine XL2 rfl rfl rfl rfl rfl rfl ?_) | refine XV1 rfl rfl rfl rfl ?_))
  repeat' (first | (refine IsO ?_; first | refine JO_nil ?_ | (refine IsLoad ?_; refine L1 rfl rfl rfl rfl ?_) | (refine IsBox ?_; refine N1 rfl rfl rfl rfl (fun _ => ?_)) | refine V1 rfl rfl rfl ?_) | (refine IsAt ?_; (with_reducible refine T1 ?_)) | (refine IsJ ?_; first | refine J_seq ?_ | refine J_region ?_))
  refine JO_val (OV_idx (off := i) rfl rfl rfl rfl (by omega) (by omega) (by simp)) rfl rfl ?_
  refine JO_l0 (OL_store rfl rfl rfl rfl rfl rfl P3 (putL_bools true (by omega))) rfl ?_
  rintro _ _ rfl
  repeat' (first | (refine IsO ?_; first | refine JO_nil ?_ | (refine IsLoad ?_; refine L1 rfl rfl rfl rfl ?_) | (refine IsBox ?_; refine N1 rfl rfl rfl rfl (fun _ => ?_)) | refine V1 rfl rfl rfl ?_) | (refine IsAt ?_; (with_reducible refine T1 ?_)) | (refine IsJ ?_; first | refine J_seq ?_ | refine J_region ?_))
  refine J_draw [0, 0, 0, 1, 0, 0, 0, 0, 0, 1, 0, 0, 2] [0, 1, 2, 3, 4, 5, 6, 7, 8, 9, 10, 11, 12] (by kernel_rfl) (by kernel_rfl) ?_
  repeat' (refine IsX ?_; first | (refine JX_nil ?_; refine At_np ?_) | (refine JX_op rfl ?_; refine XsO ?_; first | (refine XsBin ?_; refine XB1 rfl rfl rfl rfl rfl ?_) | (refine XsLoad ?_; first | refine XL1 rfl rfl rfl rfl rfl ?_ | refine XL2 rfl rfl rfl rfl rfl rfl ?_) | refine XV1 rfl rfl rfl rfl ?_))
  obtain ⟨o, ho, hko⟩ : ∃ o, (if n = ((i : Int) + 1).toNat then some (⟨bw, 0, none⟩ : Addr) else (some (⟨bw, 0, none⟩ : Addr)).map (·.add (((i : Int) + 1).toNat * 1))) = some ⟨bw, o, none⟩ ∧ (k ≠ 0 → o = i + 1) := by
    by_cases h : n = ((i : Int) + 1).toNat
    · exact ⟨0, by rw [if_pos h], fun hk => by omega⟩
    · refine ⟨i + 1, ?_, fun _ => rfl⟩
      rw [if_neg h, Option.map_some, addr_add]
      congr 2; omega
  refine JX_val rfl rfl (OV_slice (m := (i : Int) + 1) (n := (i : Int) + 1 + k) rfl rfl rfl rfl rfl rfl rfl (by omega) (by omega) (by omega) ho) rfl rfl ?_
  rw [show ((i : Int) + 1 + k).toNat - ((i : Int) + 1).toNat = k by omega]
  have hput : putL (intsV (ws.set i (packI kd k pt))) o (List.replicate k (.int .i64 0)) = some (intsV (zeroAt (ws.set i (packI kd k pt)) (i + 1) k)) := by
    by_cases hk : k = 0
    · subst hk; simp [putL, zeroAt]
    · rw [hko hk]; exact putL_zeros (by simp; omega)
  refine JX_l0 rfl rfl (OL_clear rfl rfl rfl P1 rfl hput) rfl ?_
  rintro _ _ ⟨_, rfl⟩
  repeat' (refine IsX ?_; first | (refine JX_nil ?_; refine At_np ?_) | (refine JX_op rfl ?_; refine XsO ?_; first | (refine XsBin ?_; refine XB1 rfl rfl rfl rfl rfl ?_) | (refine XsLoad ?_; first | refine XL1 rfl rfl rfl rfl rfl ?_ | refine XL2 rfl rfl rfl rfl rfl rfl ?_) | refine XV1 rfl rfl rfl rfl ?_))
  exact At_end rfl rfl .nil rfl (is := [3, 0, 0]) rfl ⟨rfl, rfl⟩
set_option maxHeartbeats 2000000 in
theorem Place_ok (kd pt : Int) (k t : Nat) (hl : ws.length = n) (hst : st.length = n) (hn : n ≤ 65536) (hg : goodB kd k pt = true) (hf : t + 1 + k ≤ n) : Does Try.prog 31 [ptr p 0, headV kd k pt] (heapL p bw bs n ws t st)
    (fun v l => v = .tuple #[.int .i64 t, .int .i64 0] ∧ l = heapL p bw bs n (zeroAt (ws.set t (packI kd k pt)) (t + 1) k) ((t + 1 + k : Nat) : Int) (st.set t true)) := by
  have hg' := of_decide_eq_true hg
  refine Does.of tiok Try.func31 (by kernel_rfl) rfl Try.ntmps31 rfl ?_
  intro W fr
  repeat' (first | (refine IsO ?_; first | refine JO_nil ?_ | (refine IsLoad ?_; first | refine L1 rfl rfl rfl rfl ?_ | refine L2 rfl rfl rfl rfl rfl ?_) | (refine IsBox ?_; refine N1 rfl rfl rfl rfl (fun _ => ?_)) | refine V1 rfl rfl rfl ?_) | (refine IsAt ?_; (with_reducible first | refine T1 ?_ | refine T5 ?_)) | (refine IsJ ?_; first | refine J_seq ?_ | refine J_region ?_ | refine J_block ?_ | refine J_skip ?_ | refine J_ret ?_ | (refine IsCond ?_; first | refine J_cond_f rfl ?_ | refine K2 rfl ?_)))
  refine JO_l (OL_call [] rfl rfl rfl (Pack_good hg) rfl) rfl rfl ?_; rintro _ _ ⟨_, ⟨rfl, rfl⟩, rfl⟩
  repeat' (first | (refine IsO ?_; first | refine JO_nil ?_ | (refine IsLoad ?_; first | refine L1 rfl rfl rfl rfl ?_ | refine L2 rfl rfl rfl rfl rfl ?_) | (refine IsBox ?_; refine N1 rfl rfl rfl rfl (fun _ => ?_)) | refine V1 rfl rfl rfl ?_) | (refine IsAt ?_; (with_reducible first | refine T1 ?_ | refine T5 ?_)) | (refine IsJ ?_; first | refine J_seq ?_ | refine J_region ?_ | refine J_block ?_ | refine J_skip ?_ | refine J_ret ?_ | (refine IsCond ?_; first | refine J_cond_f rfl ?_ | refine K2 rfl ?_)))
  refine J_draw [0, 1, 0, 0, 0, 1, 0, 0, 0, 0, 1, 0, 0, 0] [0, 1, 2, 3, 4, 5, 6, 7, 8, 9, 10, 11, 12, 13] (by kernel_rfl) (by kernel_rfl) ?_
  repeat' (refine IsX ?_; first | (refine JX_nil ?_; refine At_np ?_) | (refine JX_op rfl ?_; refine XsO ?_; first | (refine XsBin ?_; first | refine XB1 rfl rfl rfl rfl rfl ?_ | refine XB2 rfl rfl rfl rfl rfl ?_) | (refine XsLoad ?_; refine XL1 rfl rfl rfl rfl rfl ?_) | (refine XsStore ?_; refine XS1 rfl rfl rfl rfl rfl rfl rfl rfl (fun _ => ?_)) | refine XV1 rfl rfl rfl rfl ?_))
  repeat' (first | (refine IsO ?_; first | refine JO_nil ?_ | (refine IsLoad ?_; first | refine L1 rfl rfl rfl rfl ?_ | refine L2 rfl rfl rfl rfl rfl ?_) | (refine IsBox ?_; refine N1 rfl rfl rfl rfl (fun _ => ?_)) | refine V1 rfl rfl rfl ?_) | (refine IsAt ?_; (with_reducible first | refine T1 ?_ | refine T5 ?_)) | (refine IsJ ?_; first | refine J_seq ?_ | refine J_region ?_ | refine J_block ?_ | refine J_skip ?_ | refine J_ret ?_ | (refine IsCond ?_; first | refine J_cond_f rfl ?_ | refine K2 rfl ?_)))
  refine JO_l (OL_call [1, 1, 1] rfl rfl rfl (lay_spec t k kd pt hg hl hst hn hf) rfl) rfl rfl ?_; rintro _ _ ⟨_, ⟨rfl, rfl⟩, rfl⟩
  repeat' (first | (refine IsO ?_; first | refine JO_nil ?_ | (refine IsLoad ?_; first | refine L1 rfl rfl rfl rfl ?_ | refine L2 rfl rfl rfl rfl rfl ?_) | (refine IsBox ?_; refine N1 rfl rfl rfl rfl (fun _ => ?_)) | refine V1 rfl rfl rfl ?_) | (refine IsAt ?_; (with_reducible first | refine T1 ?_ | refine T5 ?_)) | (refine IsJ ?_; first | refine J_seq ?_ | refine J_region ?_ | refine J_block ?_ | refine J_skip ?_ | refine J_ret ?_ | (refine IsCond ?_; first | refine J_cond_f rfl ?_ | refine K2 rfl ?_)))
  refine J_draw [0, 0, 0, 1, 0, 1, 0, 0, 0, 0, 2] [0, 1, 2, 3, 4, 5, 6, 7, 8, 9, 10] (by kernel_rfl) (by kernel_rfl) ?_
  repeat' (refine IsX ?_; first | (refine JX_nil ?_; refine At_np ?_) | (refine JX_op rfl ?_; refine XsO ?_; first | (refine XsBin ?_; first | refine XB1 rfl rfl rfl rfl rfl ?_ | refine XB2 rfl rfl rfl rfl rfl ?_) | (refine XsLoad ?_; refine XL1 rfl rfl rfl rfl rfl ?_) | (refine XsStore ?_; refine XS1 rfl rfl rfl rfl rfl rfl rfl rfl (fun _ => ?_)) | refine XV1 rfl rfl rfl rfl ?_))
  repeat' (first | (refine IsO ?_; first | refine JO_nil ?_ | (refine IsLoad ?_; first | refine L1 rfl rfl rfl rfl ?_ | refine L2 rfl rfl rfl rfl rfl ?_) | (refine IsBox ?_; refine N1 rfl rfl rfl rfl (fun _ => ?_)) | refine V1 rfl rfl rfl ?_) | (refine IsAt ?_; (with_reducible first | refine T1 ?_ | refine T5 ?_)) | (refine IsJ ?_; first | refine J_seq ?_ | refine J_region ?_ | refine J_block ?_ | refine J_skip ?_ | refine J_ret ?_ | (refine IsCond ?_; first | refine J_cond_f rfl ?_ | refine K2 rfl ?_)))
  refine At_ret rfl rfl (.tmp rfl (.tmp rfl .nil)) rfl (is := [0, 0, 0]) rfl ⟨rfl, ?_⟩
  rw [show ((t + 1 + k : Nat) : Int) = (t : Int) + (1 + (k : Int)) by omega]
end ops
end Go.Proofs.Ytahfnbpbdnmggaa
/-
  Our own: heaps: heap.Of.
-/
set_option linter.unusedVariables false
set_option linter.unusedSimpArgs false
namespace Go.Proofs.Ytahfnbpbdnmggaa
open Go.Sep
/-- Where objects begin, from place i on; none: a word is no head, or its object doesn't end by T. -/
def ofF (ws : List Int) (T : Nat) : Nat → Nat → List Bool → Option (List Bool)
  | 0, _, st => some st
  | f + 1, i, st => if i < T then
      match ws[i]? with
      | some w => if wordB w = true ∧ i + 1 + (unN w).toNat ≤ T then ofF ws T f (i + 1 + (unN w).toNat) (st.set i true) else none
      | none => none
    else some st
theorem unN_in {w : Int} (h : wordB w = true) : 0 ≤ unN w ∧ unN w ≤ 4095 := by
  obtain ⟨_, h1, _⟩ := un_packI h
  have := of_decide_eq_true h1
  omega
section ops
variable {R : HP} {a : Option Addr} {cap : Nat}
set_option maxHeartbeats 4000000 in
theorem Of_spec {ws : List Int} (hR : Reads R 1 ws.length a cap (intsV ws)) (hz : ∀ w ∈ ws, In64 w) (T : Nat) (h1 : 1 ≤ ws.length) (h2 : ws.length ≤ 65536) (hT : T ≤ ws.length) : Does Try.prog 50 [.slice a ws.length cap, .int .i64 T] [R]
    (fun v l => match ofF ws T (T + 1) 0 (List.replicate ws.length false) with
      | some st => ∃ p bw bs, v = .tuple #[ptr p 0, .int .i64 0] ∧ l = heapL p bw bs ws.length ws T st ++ [R]
      | none => v = .tuple #[.pointer none, .int .i64 2] ∧ l = [R]) := by
  obtain ⟨res, hres⟩ : ∃ res, res = ofF ws T (T + 1) 0 (List.replicate ws.length false) := ⟨_, rfl⟩
  rw [← hres]
  refine Does.of tiok Try.func50 (by kernel_rfl) rfl Try.ntmps50 rfl ?_
  intro W fr
  repeat' (first | (refine IsO ?_; first | refine JO_nil ?_ | (refine IsMove ?_; refine M2 rfl rfl rfl ?_) | (refine IsLoad ?_; refine L1 rfl rfl rfl rfl ?_) | (refine IsStore ?_; refine S1 rfl rfl rfl rfl rfl rfl rfl (fun _ => ?_)) | (refine IsAlloc ?_; refine N2 rfl rfl rfl rfl (fun _ => ?_)) | refine V1 rfl rfl rfl ?_) | (refine IsAt ?_; first | (with_reducible first | refine T1 ?_ | refine T2 ?_ | refine T3 ?_ | refine T4 ?_ | refine T5 ?_ | refine T6 ?_ | refine T7 ?_) | ((with_reducible show At _ (PBlock _ _ (Exit.exit _)) _ _); refine At_block_hit ?_)) | (refine IsJ ?_; first | refine J_seq ?_ | refine J_region ?_ | refine J_block ?_ | refine J_skip ?_ | refine J_ret ?_ | refine J_exit ?_ | (refine IsCond ?_; first | refine J_cond_t rfl ?_ | refine J_cond_f rfl ?_ | refine K1 rfl ?_ | refine K2 rfl ?_ | refine J_cb rfl (fun _ => ?_) (fun _ => ?_))))
  refine JO_l (OL_call [] rfl rfl rfl (heapNew_ok ws.length h1 h2) rfl) rfl rfl ?_; rintro _ _ ⟨_, ⟨p, bw, bs, rfl, rfl⟩, rfl⟩
  repeat' (first | (refine IsO ?_; first | refine JO_nil ?_ | (refine IsMove ?_; refine M2 rfl rfl rfl ?_) | (refine IsLoad ?_; refine L1 rfl rfl rfl rfl ?_) | (refine IsStore ?_; refine S1 rfl rfl rfl rfl rfl rfl rfl (fun _ => ?_)) | (refine IsAlloc ?_; refine N2 rfl rfl rfl rfl (fun _ => ?_)) | refine V1 rfl rfl rfl ?_) | (refine IsAt ?_; first | (with_reducible first | refine T1 ?_ | refine T2 ?_ | refine T3 ?_ | refine T4 ?_ | refine T5 ?_ | refine T6 ?_ | refine T7 ?_) | ((with_reducible show At _ (PBlock _ _ (Exit.exit _)) _ _); refine At_block_hit ?_)) | (refine IsJ ?_; first | refine J_seq ?_ | refine J_region ?_ | refine J_block ?_ | refine J_skip ?_ | refine J_ret ?_ | refine J_exit ?_ | (refine IsCond ?_; first | refine J_cond_t rfl ?_ | refine J_cond_f rfl ?_ | refine K1 rfl ?_ | refine K2 rfl ?_ | refine J_cb rfl (fun _ => ?_) (fun _ => ?_))))
  refine JO_l (OL_copy rfl rfl rfl rfl P1 rfl (fun w hs => by rw [Nat.min_self]; exact (hR.src (.tail _ (.tail _ (.tail _ (.head _))))).2.2 w hs) (plainL_ints ws) (cs' := intsV ws) ?_) rfl rfl ?_
  · rw [putL_split (by simp [intsV])]; simp [intsV]
  rintro _ _ ⟨rfl, rfl⟩
  repeat' (first | (refine IsO ?_; first | refine JO_nil ?_ | (refine IsMove ?_; refine M2 rfl rfl rfl ?_) | (refine IsLoad ?_; refine L1 rfl rfl rfl rfl ?_) | (refine IsStore ?_; refine S1 rfl rfl rfl rfl rfl rfl rfl (fun _ => ?_)) | (refine IsAlloc ?_; refine N2 rfl rfl rfl rfl (fun _ => ?_)) | refine V1 rfl rfl rfl ?_) | (refine IsAt ?_; first | (with_reducible first | refine T1 ?_ | refine T2 ?_ | refine T3 ?_ | refine T4 ?_ | refine T5 ?_ | refine T6 ?_ | refine T7 ?_) | ((with_reducible show At _ (PBlock _ _ (Exit.exit _)) _ _); refine At_block_hit ?_)) | (refine IsJ ?_; first | refine J_seq ?_ | refine J_region ?_ | refine J_block ?_ | refine J_skip ?_ | refine J_ret ?_ | refine J_exit ?_ | (refine IsCond ?_; first | refine J_cond_t rfl ?_ | refine J_cond_f rfl ?_ | refine K1 rfl ?_ | refine K2 rfl ?_ | refine J_cb rfl (fun _ => ?_) (fun _ => ?_))))
  refine J_loop (α := Nat × List Bool × Nat) (fun x => x.1 ≤ T ∧ x.2.1.length = ws.length ∧ T < x.1 + x.2.2 ∧ res = ofF ws T x.2.2 x.1 x.2.1)
    (fun x => [(0, .slice a ws.length cap), (1, .int .i64 T), (4, .pointer none), (5, .int .i64 0), (6, ptr p 0)])
    (fun x => heapL p bw bs ws.length ws x.1 x.2.1 ++ [R]) (fun x => T - x.1) (0, List.replicate ws.length false, T + 1) ⟨Nat.zero_le _, by simp, by simp, hres⟩ (by repeat (first | exact True.intro | refine And.intro rfl ?_)) (fun H hl => hl.swap) ?_
  rintro ⟨i, st, f⟩ ⟨hi, hst, hf, hof⟩
  dsimp only at hi hst hf hof ⊢
  repeat' (first | (refine IsO ?_; first | refine JO_nil ?_ | (refine IsMove ?_; refine M2 rfl rfl rfl ?_) | (refine IsLoad ?_; refine L1 rfl rfl rfl rfl ?_) | (refine IsStore ?_; refine S1 rfl rfl rfl rfl rfl rfl rfl (fun _ => ?_)) | (refine IsAlloc ?_; refine N2 rfl rfl rfl rfl (fun _ => ?_)) | refine V1 rfl rfl rfl ?_) | (refine IsAt ?_; first | (with_reducible first | refine T1 ?_ | refine T2 ?_ | refine T3 ?_ | refine T4 ?_ | refine T5 ?_ | refine T6 ?_ | refine T7 ?_) | ((with_reducible show At _ (PBlock _ _ (Exit.exit _)) _ _); refine At_block_hit ?_)) | (refine IsJ ?_; first | refine J_seq ?_ | refine J_region ?_ | refine J_block ?_ | refine J_skip ?_ | refine J_ret ?_ | refine J_exit ?_ | (refine IsCond ?_; first | refine J_cond_t rfl ?_ | refine J_cond_f rfl ?_ | refine K1 rfl ?_ | refine K2 rfl ?_ | refine J_cb rfl (fun _ => ?_) (fun _ => ?_))))
  · rename_i hlt
    have hlt' : i < T := by omega
    have hil : i < ws.length := by omega
    obtain ⟨w, hwi⟩ : ∃ w, ws[i]? = some w := ⟨ws[i], List.getElem?_eq_getElem _⟩
    have hw := hz w (List.mem_of_getElem? hwi)
    obtain ⟨g, rfl⟩ : ∃ g, f = g + 1 := ⟨f - 1, by omega⟩
    simp only [ofF, hlt', if_true, hwi] at hof
    refine JO_fact _ (fun w hs => hR.some (by omega) hs (.tail _ (.tail _ (.tail _ (.head _))))) ?_
    rintro ⟨b, o, rfl⟩
    refine JO_val (OV_idx (off := o + i) rfl rfl rfl rfl (by omega) (by omega) (by simp)) rfl rfl ?_
    refine JO_q (OQ_read (v := .int .i64 w) hR (.tail _ (.tail _ (.tail _ (.head _)))) rfl rfl (by omega) (by simp [intsV, hwi])) rfl rfl ?_
    cases hg : wordB w
    · rw [hg] at hof
      simp only [Bool.false_eq_true, false_and, if_false] at hof
      refine JO_l (OL_call [] rfl rfl rfl (Unpack_bad hw hg) rfl) rfl rfl ?_; rintro _ _ ⟨_, ⟨rfl, rfl⟩, rfl⟩
      repeat' (first | (refine IsO ?_; first | refine JO_nil ?_ | (refine IsMove ?_; refine M2 rfl rfl rfl ?_) | (refine IsLoad ?_; refine L1 rfl rfl rfl rfl ?_) | (refine IsStore ?_; refine S1 rfl rfl rfl rfl rfl rfl rfl (fun _ => ?_)) | (refine IsAlloc ?_; refine N2 rfl rfl rfl rfl (fun _ => ?_)) | refine V1 rfl rfl rfl ?_) | (refine IsAt ?_; first | (with_reducible first | refine T1 ?_ | refine T2 ?_ | refine T3 ?_ | refine T4 ?_ | refine T5 ?_ | refine T6 ?_ | refine T7 ?_) | ((with_reducible show At _ (PBlock _ _ (Exit.exit _)) _ _); refine At_block_hit ?_)) | (refine IsJ ?_; first | refine J_seq ?_ | refine J_region ?_ | refine J_block ?_ | refine J_skip ?_ | refine J_ret ?_ | refine J_exit ?_ | (refine IsCond ?_; first | refine J_cond_t rfl ?_ | refine J_cond_f rfl ?_ | refine K1 rfl ?_ | refine K2 rfl ?_ | refine J_cb rfl (fun _ => ?_) (fun _ => ?_))))
      refine J_draw [0, 0, 0, 0, 1, 0, 0, 0, 0, 1, 0, 0, 0] [0, 1, 2, 3, 4, 5, 6, 7, 8, 9, 10, 11, 12] (by kernel_rfl) (by kernel_rfl) ?_
      repeat' (refine IsX ?_; first | (refine JX_nil ?_; refine At_np ?_) | (refine JX_op rfl ?_; refine XsO ?_; first | (refine XsG ?_; refine XG1 rfl rfl rfl ?_) | (refine XsMove ?_; first | refine XM3 rfl rfl rfl rfl ?_ | refine XM4 rfl rfl rfl rfl ?_) | (refine XsBin ?_; first | refine XB1 rfl rfl rfl rfl rfl ?_ | refine XB2 rfl rfl rfl rfl rfl ?_) | (refine XsLoad ?_; refine XL1 rfl rfl rfl rfl rfl ?_) | (refine XsStore ?_; refine XS1 rfl rfl rfl rfl rfl rfl rfl rfl (fun _ => ?_)) | refine XV1 rfl rfl rfl rfl ?_))
      repeat' (first | (refine IsO ?_; first | refine JO_nil ?_ | (refine IsMove ?_; refine M2 rfl rfl rfl ?_) | (refine IsLoad ?_; refine L1 rfl rfl rfl rfl ?_) | (refine IsStore ?_; refine S1 rfl rfl rfl rfl rfl rfl rfl (fun _ => ?_)) | (refine IsAlloc ?_; refine N2 rfl rfl rfl rfl (fun _ => ?_)) | refine V1 rfl rfl rfl ?_) | (refine IsAt ?_; first | (with_reducible first | refine T1 ?_ | refine T2 ?_ | refine T3 ?_ | refine T4 ?_ | refine T5 ?_ | refine T6 ?_ | refine T7 ?_) | ((with_reducible show At _ (PBlock _ _ (Exit.exit _)) _ _); refine At_block_hit ?_)) | (refine IsJ ?_; first | refine J_seq ?_ | refine J_region ?_ | refine J_block ?_ | refine J_skip ?_ | refine J_ret ?_ | refine J_exit ?_ | (refine IsCond ?_; first | refine J_cond_t rfl ?_ | refine J_cond_f rfl ?_ | refine K1 rfl ?_ | refine K2 rfl ?_ | refine J_cb rfl (fun _ => ?_) (fun _ => ?_))))
      exact At_ret rfl rfl (.tmp rfl (.tmp rfl .nil)) rfl (is := [4]) rfl (by rw [hof]; exact ⟨rfl, rfl⟩)
    · obtain ⟨hn1, hn2⟩ := unN_in hg
      obtain ⟨k, hk⟩ := Int.eq_ofNat_of_zero_le hn1
      rw [hg, hk] at hof
      simp only [true_and, Int.toNat_natCast] at hof
      refine JO_l (OL_call [] rfl rfl rfl (Unpack_good hw hg) rfl) rfl rfl ?_; rintro _ _ ⟨_, ⟨rfl, rfl⟩, rfl⟩
      rw [hk]
      repeat' (first | (refine IsO ?_; first | refine JO_nil ?_ | (refine IsMove ?_; refine M2 rfl rfl rfl ?_) | (refine IsLoad ?_; refine L1 rfl rfl rfl rfl ?_) | (refine IsStore ?_; refine S1 rfl rfl rfl rfl rfl rfl rfl (fun _ => ?_)) | (refine IsAlloc ?_; refine N2 rfl rfl rfl rfl (fun _ => ?_)) | refine V1 rfl rfl rfl ?_) | (refine IsAt ?_; first | (with_reducible first | refine T1 ?_ | refine T2 ?_ | refine T3 ?_ | refine T4 ?_ | refine T5 ?_ | refine T6 ?_ | refine T7 ?_) | ((with_reducible show At _ (PBlock _ _ (Exit.exit _)) _ _); refine At_block_hit ?_)) | (refine IsJ ?_; first | refine J_seq ?_ | refine J_region ?_ | refine J_block ?_ | refine J_skip ?_ | refine J_ret ?_ | refine J_exit ?_ | (refine IsCond ?_; first | refine J_cond_t rfl ?_ | refine J_cond_f rfl ?_ | refine K1 rfl ?_ | refine K2 rfl ?_ | refine J_cb rfl (fun _ => ?_) (fun _ => ?_))))
      refine J_draw [0, 0, 0, 0, 1, 0, 0, 0, 0, 1, 0, 0, 0] [0, 1, 2, 3, 4, 5, 6, 7, 8, 9, 10, 11, 12] (by kernel_rfl) (by kernel_rfl) ?_
      repeat' (refine IsX ?_; first | (refine JX_nil ?_; refine At_np ?_) | (refine JX_op rfl ?_; refine XsO ?_; first | (refine XsG ?_; refine XG1 rfl rfl rfl ?_) | (refine XsMove ?_; first | refine XM3 rfl rfl rfl rfl ?_ | refine XM4 rfl rfl rfl rfl ?_) | (refine XsBin ?_; first | refine XB1 rfl rfl rfl rfl rfl ?_ | refine XB2 rfl rfl rfl rfl rfl ?_) | (refine XsLoad ?_; refine XL1 rfl rfl rfl rfl rfl ?_) | (refine XsStore ?_; refine XS1 rfl rfl rfl rfl rfl rfl rfl rfl (fun _ => ?_)) | refine XV1 rfl rfl rfl rfl ?_))
      by_cases hfit : i + 1 + k ≤ T
      · rw [if_pos hfit] at hof
        repeat' (first | (refine IsO ?_; first | refine JO_nil ?_ | (refine IsMove ?_; refine M2 rfl rfl rfl ?_) | (refine IsLoad ?_; refine L1 rfl rfl rfl rfl ?_) | (refine IsStore ?_; refine S1 rfl rfl rfl rfl rfl rfl rfl (fun _ => ?_)) | (refine IsAlloc ?_; refine N2 rfl rfl rfl rfl (fun _ => ?_)) | refine V1 rfl rfl rfl ?_) | (refine IsAt ?_; first | (with_reducible first | refine T1 ?_ | refine T2 ?_ | refine T3 ?_ | refine T4 ?_ | refine T5 ?_ | refine T6 ?_ | refine T7 ?_) | ((with_reducible show At _ (PBlock _ _ (Exit.exit _)) _ _); refine At_block_hit ?_)) | (refine IsJ ?_; first | refine J_seq ?_ | refine J_region ?_ | refine J_block ?_ | refine J_skip ?_ | refine J_ret ?_ | refine J_exit ?_ | (refine IsCond ?_; first | refine J_cond_t rfl ?_ | refine J_cond_f rfl ?_ | refine K1 rfl ?_ | refine K2 rfl ?_ | refine J_cb rfl (fun _ => ?_) (fun _ => ?_))))
        refine J_draw [0, 0, 0, 1, 0, 0, 0, 1, 0, 2] [0, 1, 2, 3, 4, 5, 6, 7, 8, 9] (by kernel_rfl) (by kernel_rfl) ?_
        repeat' (refine IsX ?_; first | (refine JX_nil ?_; refine At_np ?_) | (refine JX_op rfl ?_; refine XsO ?_; first | (refine XsG ?_; refine XG1 rfl rfl rfl ?_) | (refine XsMove ?_; first | refine XM3 rfl rfl rfl rfl ?_ | refine XM4 rfl rfl rfl rfl ?_) | (refine XsBin ?_; first | refine XB1 rfl rfl rfl rfl rfl ?_ | refine XB2 rfl rfl rfl rfl rfl ?_) | (refine XsLoad ?_; refine XL1 rfl rfl rfl rfl rfl ?_) | (refine XsStore ?_; refine XS1 rfl rfl rfl rfl rfl rfl rfl rfl (fun _ => ?_)) | refine XV1 rfl rfl rfl rfl ?_))
        refine JX_val rfl rfl (OV_idx (off := i) rfl rfl rfl rfl (by omega) (by omega) (by simp)) rfl rfl ?_
        refine JX_l0 rfl rfl (OL_store rfl rfl rfl rfl rfl rfl (by first | exact P0 | exact P1 | exact P2 | exact P3 | exact P4 | exact P5 | exact P6 | exact P7) (putL_bools true (by omega))) rfl ?_
        rintro _ _ rfl
        repeat' (refine IsX ?_; first | (refine JX_nil ?_; refine At_np ?_) | (refine JX_op rfl ?_; refine XsO ?_; first | (refine XsG ?_; refine XG1 rfl rfl rfl ?_) | (refine XsMove ?_; first | refine XM3 rfl rfl rfl rfl ?_ | refine XM4 rfl rfl rfl rfl ?_) | (refine XsBin ?_; first | refine XB1 rfl rfl rfl rfl rfl ?_ | refine XB2 rfl rfl rfl rfl rfl ?_) | (refine XsLoad ?_; refine XL1 rfl rfl rfl rfl rfl ?_) | (refine XsStore ?_; refine XS1 rfl rfl rfl rfl rfl rfl rfl rfl (fun _ => ?_)) | refine XV1 rfl rfl rfl rfl ?_))
        repeat' (first | (refine IsO ?_; first | refine JO_nil ?_ | (refine IsMove ?_; refine M2 rfl rfl rfl ?_) | (refine IsLoad ?_; refine L1 rfl rfl rfl rfl ?_) | (refine IsStore ?_; refine S1 rfl rfl rfl rfl rfl rfl rfl (fun _ => ?_)) | (refine IsAlloc ?_; refine N2 rfl rfl rfl rfl (fun _ => ?_)) | refine V1 rfl rfl rfl ?_) | (refine IsAt ?_; first | (with_reducible first | refine T1 ?_ | refine T2 ?_ | refine T3 ?_ | refine T4 ?_ | refine T5 ?_ | refine T6 ?_ | refine T7 ?_) | ((with_reducible show At _ (PBlock _ _ (Exit.exit _)) _ _); refine At_block_hit ?_)) | (refine IsJ ?_; first | refine J_seq ?_ | refine J_region ?_ | refine J_block ?_ | refine J_skip ?_ | refine J_ret ?_ | refine J_exit ?_ | (refine IsCond ?_; first | refine J_cond_t rfl ?_ | refine J_cond_f rfl ?_ | refine K1 rfl ?_ | refine K2 rfl ?_ | refine J_cb rfl (fun _ => ?_) (fun _ => ?_))))
        refine J_draw [0, 0, 0, 1, 0, 1, 0, 0, 0, 0, 2] [0, 1, 2, 3, 4, 5, 6, 7, 8, 9, 10] (by kernel_rfl) (by kernel_rfl) ?_
        repeat' (refine IsX ?_; first | (refine JX_nil ?_; refine At_np ?_) | (refine JX_op rfl ?_; refine XsO ?_; first | (refine XsG ?_; refine XG1 rfl rfl rfl ?_) | (refine XsMove ?_; first | refine XM3 rfl rfl rfl rfl ?_ | refine XM4 rfl rfl rfl rfl ?_) | (refine XsBin ?_; first | refine XB1 rfl rfl rfl rfl rfl ?_ | refine XB2 rfl rfl rfl rfl rfl ?_) | (refine XsLoad ?_; refine XL1 rfl rfl rfl rfl rfl ?_) | (refine XsStore ?_; refine XS1 rfl rfl rfl rfl rfl rfl rfl rfl (fun _ => ?_)) | refine XV1 rfl rfl rfl rfl ?_))
        repeat' (first | (refine IsO ?_; first | refine JO_nil ?_ | (refine IsMove ?_; refine M2 rfl rfl rfl ?_) | (refine IsLoad ?_; refine L1 rfl rfl rfl rfl ?_) | (refine IsStore ?_; refine S1 rfl rfl rfl rfl rfl rfl rfl (fun _ => ?_)) | (refine IsAlloc ?_; refine N2 rfl rfl rfl rfl (fun _ => ?_)) | refine V1 rfl rfl rfl ?_) | (refine IsAt ?_; first | (with_reducible first | refine T1 ?_ | refine T2 ?_ | refine T3 ?_ | refine T4 ?_ | refine T5 ?_ | refine T6 ?_ | refine T7 ?_) | ((with_reducible show At _ (PBlock _ _ (Exit.exit _)) _ _); refine At_block_hit ?_)) | (refine IsJ ?_; first | refine J_seq ?_ | refine J_region ?_ | refine J_block ?_ | refine J_skip ?_ | refine J_ret ?_ | refine J_exit ?_ | (refine IsCond ?_; first | refine J_cond_t rfl ?_ | refine J_cond_f rfl ?_ | refine K1 rfl ?_ | refine K2 rfl ?_ | refine J_cb rfl (fun _ => ?_) (fun _ => ?_))))
        rw [show ((i : Int) + (1 + (k : Int))) = ((i + 1 + k : Nat) : Int) by omega]
        exact At_round (i + 1 + k, st.set i true, g) (by show T - (i + 1 + k) < T - i; omega) ⟨hfit, by simp [hst], by show T < i + 1 + k + g; omega, hof⟩ (by repeat (first | exact True.intro | refine And.intro rfl ?_)) (fun H hl => (hl.perm (picks_perm (is := [0, 2, 0, 1]) rfl)).left)
      · rw [if_neg hfit] at hof
        repeat' (first | (refine IsO ?_; first | refine JO_nil ?_ | (refine IsMove ?_; refine M2 rfl rfl rfl ?_) | (refine IsLoad ?_; refine L1 rfl rfl rfl rfl ?_) | (refine IsStore ?_; refine S1 rfl rfl rfl rfl rfl rfl rfl (fun _ => ?_)) | (refine IsAlloc ?_; refine N2 rfl rfl rfl rfl (fun _ => ?_)) | refine V1 rfl rfl rfl ?_) | (refine IsAt ?_; first | (with_reducible first | refine T1 ?_ | refine T2 ?_ | refine T3 ?_ | refine T4 ?_ | refine T5 ?_ | refine T6 ?_ | refine T7 ?_) | ((with_reducible show At _ (PBlock _ _ (Exit.exit _)) _ _); refine At_block_hit ?_)) | (refine IsJ ?_; first | refine J_seq ?_ | refine J_region ?_ | refine J_block ?_ | refine J_skip ?_ | refine J_ret ?_ | refine J_exit ?_ | (refine IsCond ?_; first | refine J_cond_t rfl ?_ | refine J_cond_f rfl ?_ | refine K1 rfl ?_ | refine K2 rfl ?_ | refine J_cb rfl (fun _ => ?_) (fun _ => ?_))))
        exact At_ret rfl rfl (.tmp rfl (.tmp rfl .nil)) rfl (is := [4]) rfl (by rw [hof]; exact ⟨rfl, rfl⟩)
  · have hii : i = T := by omega
    subst hii
    have e : ofF ws i f i st = some st := by cases f <;> simp [ofF]
    rw [e] at hof
    refine At_ret rfl rfl (.tmp rfl (.tmp rfl .nil)) rfl (is := [0, 0, 0, 0]) rfl ?_
    rw [hof]
    exact ⟨p, bw, bs, rfl, rfl⟩
end ops
end Go.Proofs.Ytahfnbpbdnmggaa
/-
  Our own: besomlaw01.ints: the same numbers?
-/
set_option linter.unusedVariables false
set_option linter.unusedSimpArgs false
namespace Go.Proofs.Ytahfnbpbdnmggaa
open Go.Sep
theorem take_eq_succ {xs ys : List Int} {i : Nat} {x y : Int} (h : xs.take i = ys.take i) (hx : xs[i]? = some x) (hy : ys[i]? = some y) : (xs.take (i + 1) = ys.take (i + 1)) ↔ x = y := by
  rw [List.take_add_one, List.take_add_one, hx, hy, h]
  simp
set_option maxHeartbeats 2000000 in
theorem ints_spec {R1 R2 : HP} {l0 : List HP} {a b : Option Addr} {cap cap' : Nat} {xs ys : List Int} (hR1 : Reads R1 1 xs.length a cap (intsV xs)) (hR2 : Reads R2 1 ys.length b cap' (intsV ys)) (hm1 : R1 ∈ l0) (hm2 : R2 ∈ l0) (hb : xs.length ≤ 1000000) (hb2 : ys.length ≤ 1000000) :
    Does Try.prog 75 [.slice a xs.length cap, .slice b ys.length cap'] l0 (fun v l => v = .bool (decide (xs = ys)) ∧ l = l0) := by
  refine Does.of tiok Try.func75 (by kernel_rfl) rfl Try.ntmps75 rfl ?_
  intro W fr
  repeat' (first | (refine IsO ?_; first | refine JO_nil ?_ | (refine IsBin ?_; refine B1 rfl rfl rfl rfl ?_) | refine V1 rfl rfl rfl ?_) | (refine IsAt ?_; first | (with_reducible first | refine T1 ?_ | refine T2 ?_ | refine T3 ?_ | refine T4 ?_ | refine T5 ?_ | refine T6 ?_ | refine T7 ?_) | ((with_reducible show At _ (PBlock _ _ (Exit.exit _)) _ _); refine At_block_hit ?_)) | (refine IsJ ?_; first | refine J_seq ?_ | refine J_region ?_ | refine J_block ?_ | refine J_skip ?_ | refine J_ret ?_ | refine J_exit ?_ | (refine IsCond ?_; first | refine J_cb rfl (fun _ => ?_) (fun _ => ?_) | refine J_nb rfl (fun _ => ?_) (fun _ => ?_))))
  · rename_i hne
    exact At_ret' rfl rfl (.tmp rfl .nil) rfl (fun _ h => h) ⟨by rw [decide_eq_false (fun e => hne (by rw [e]))]; rfl, rfl⟩
  rename_i heq
  have heq' : xs.length = ys.length := by omega
  refine J_loop (α := Nat) (fun i => i ≤ xs.length ∧ xs.take i = ys.take i)
    (fun i => [(0, .slice a xs.length cap), (1, .slice b ys.length cap'), (4, .bool false), (11, .slice a xs.length cap), (12, .int .i64 xs.length), (13, .int .i64 i)])
    (fun _ => l0) (fun i => xs.length - i) 0 ⟨Nat.zero_le _, rfl⟩ (by repeat (first | exact True.intro | refine And.intro rfl ?_)) (fun H hl => hl) ?_
  rintro i ⟨hi, htk⟩
  repeat' (first | (refine IsO ?_; first | refine JO_nil ?_ | (refine IsBin ?_; refine B1 rfl rfl rfl rfl ?_) | refine V1 rfl rfl rfl ?_) | (refine IsAt ?_; first | (with_reducible first | refine T1 ?_ | refine T2 ?_ | refine T3 ?_ | refine T4 ?_ | refine T5 ?_ | refine T6 ?_ | refine T7 ?_) | ((with_reducible show At _ (PBlock _ _ (Exit.exit _)) _ _); refine At_block_hit ?_)) | (refine IsJ ?_; first | refine J_seq ?_ | refine J_region ?_ | refine J_block ?_ | refine J_skip ?_ | refine J_ret ?_ | refine J_exit ?_ | (refine IsCond ?_; first | refine J_cb rfl (fun _ => ?_) (fun _ => ?_) | refine J_nb rfl (fun _ => ?_) (fun _ => ?_))))
  · rename_i hlt
    have h1 : i < xs.length := by omega
    have h2 : i < ys.length := by omega
    obtain ⟨x, hx⟩ : ∃ x, xs[i]? = some x := ⟨xs[i], List.getElem?_eq_getElem _⟩
    obtain ⟨y, hy⟩ : ∃ y, ys[i]? = some y := ⟨ys[i], List.getElem?_eq_getElem _⟩
    have hnext := take_eq_succ htk hx hy
    refine J_fact _ (fun w hs => hR1.some (by omega) hs (List.mem_append_left _ hm1)) ?_
    rintro ⟨b1, o1, rfl⟩
    refine J_fact _ (fun w hs => hR2.some (by omega) hs (List.mem_append_left _ hm2)) ?_
    rintro ⟨b2, o2, rfl⟩
    refine J_draw [0, 0, 0, 1, 0, 0, 0, 1, 0] [0, 1, 2, 3, 4, 5, 6, 7, 8] (by kernel_rfl) (by kernel_rfl) ?_
    repeat' (refine IsX ?_; first | (refine JX_nil ?_; refine At_np ?_) | (refine JX_op rfl ?_; refine XsO ?_; refine XV1 rfl rfl rfl rfl ?_))
    refine JX_val rfl rfl (OV_idx (off := o1 + i) rfl rfl rfl rfl (by omega) (by omega) (by simp)) rfl rfl ?_
    refine JX_q rfl rfl (OQ_read (v := .int .i64 x) hR1 hm1 rfl rfl (by omega) (by simp [intsV, hx])) rfl rfl ?_
    repeat' (refine IsX ?_; first | (refine JX_nil ?_; refine At_np ?_) | (refine JX_op rfl ?_; refine XsO ?_; refine XV1 rfl rfl rfl rfl ?_))
    refine JX_val rfl rfl (OV_idx (off := o2 + i) rfl rfl rfl rfl (by omega) (by omega) (by simp)) rfl rfl ?_
    refine JX_q rfl rfl (OQ_read (v := .int .i64 y) hR2 hm2 rfl rfl (by omega) (by simp [intsV, hy])) rfl rfl ?_
    repeat' (refine IsX ?_; first | (refine JX_nil ?_; refine At_np ?_) | (refine JX_op rfl ?_; refine XsO ?_; refine XV1 rfl rfl rfl rfl ?_))
    repeat' (first | (refine IsO ?_; first | refine JO_nil ?_ | (refine IsBin ?_; refine B1 rfl rfl rfl rfl ?_) | refine V1 rfl rfl rfl ?_) | (refine IsAt ?_; first | (with_reducible first | refine T1 ?_ | refine T2 ?_ | refine T3 ?_ | refine T4 ?_ | refine T5 ?_ | refine T6 ?_ | refine T7 ?_) | ((with_reducible show At _ (PBlock _ _ (Exit.exit _)) _ _); refine At_block_hit ?_)) | (refine IsJ ?_; first | refine J_seq ?_ | refine J_region ?_ | refine J_block ?_ | refine J_skip ?_ | refine J_ret ?_ | refine J_exit ?_ | (refine IsCond ?_; first | refine J_cb rfl (fun _ => ?_) (fun _ => ?_) | refine J_nb rfl (fun _ => ?_) (fun _ => ?_))))
    · rename_i hxy
      refine At_ret' rfl rfl (.tmp rfl .nil) rfl (fun _ h => h) ⟨?_, rfl⟩
      rw [decide_eq_false (fun e => hxy (hnext.1 (by rw [e])))]; rfl
    · rename_i hxy
      exact At_round (i + 1) (by show xs.length - (i + 1) < xs.length - i; omega) ⟨by show i + 1 ≤ xs.length; omega, hnext.2 hxy⟩ (by repeat (first | exact True.intro | refine And.intro rfl ?_)) (fun H hl => hl)
  · have hii : i = xs.length := by omega
    subst hii
    have e : xs = ys := by
      have h3 := htk
      rw [List.take_length, heq', List.take_length] at h3
      exact h3
    exact At_ret' rfl rfl (.tmp rfl .nil) rfl (fun _ h => h) ⟨by rw [decide_eq_true e]; rfl, rfl⟩
end Go.Proofs.Ytahfnbpbdnmggaa
/-
  Our own: the document's heads: besomref01.Good, Pack, Unpack; the law's awake; heads compared.
-/
set_option linter.unusedVariables false
set_option linter.unusedSimpArgs false
namespace Go.Proofs.Ytahfnbpbdnmggaa
open Go.Sep
set_option maxHeartbeats 4000000 in
theorem refGood_spec (k n p : Int) : Does Try.prog 57 [headV k n p] [] (fun v l => v = .bool (goodB k n p) ∧ l = []) := by
  refine Does.of tiok Try.func57 (by kernel_rfl) rfl Try.ntmps57 rfl ?_
  intro W fr
  repeat' (first | (refine IsO ?_; first | refine JO_nil ?_ | (refine IsG ?_; refine G1 rfl rfl ?_) | (refine IsMove ?_; first | refine M5 rfl rfl rfl (fun _ => ?_) (fun _ => ?_) | refine M6 rfl rfl rfl (fun _ => ?_) (fun _ => ?_)) | (refine IsLoad ?_; refine L1 rfl rfl rfl rfl ?_) | (refine IsBox ?_; refine N1 rfl rfl rfl rfl (fun _ => ?_)) | refine V1 rfl rfl rfl ?_) | (refine IsAt ?_; (with_reducible first | refine T1 ?_ | refine T2 ?_)) | (refine IsJ ?_; first | refine J_seq ?_ | refine J_region ?_ | refine J_skip ?_ | refine J_ret ?_ | (refine IsCond ?_; first | refine J_cond_t rfl ?_ | refine J_cb rfl (fun _ => ?_) (fun _ => ?_))))
  all_goals refine At_ret1 rfl rfl rfl (is := []) rfl ⟨?_, rfl⟩
  all_goals (refine congrArg Value.bool ?_; unfold goodB; first | exact (decide_eq_true (by omega)).symm | exact (decide_eq_false (by omega)).symm | exact decide_eq_decide.2 (by omega))
set_option maxHeartbeats 1000000 in
theorem refPack_spec (k n p : Int) (h : goodB k n p = true) : Does Try.prog 90 [headV k n p] [] (fun v l => v = .int .i64 (packI k n p) ∧ l = []) := by
  have hg' := of_decide_eq_true h
  refine Does.of tiok Try.func90 (by kernel_rfl) rfl Try.ntmps90 rfl ?_
  intro W fr
  repeat' (first | (refine IsO ?_; first | refine JO_nil ?_ | (refine IsBin ?_; first | refine B1 rfl rfl rfl rfl ?_ | refine B3 rfl rfl rfl rfl ?_) | (refine IsLoad ?_; refine L1 rfl rfl rfl rfl ?_) | (refine IsBox ?_; refine N1 rfl rfl rfl rfl (fun _ => ?_)) | refine V1 rfl rfl rfl ?_) | (refine IsAt ?_; (with_reducible refine T1 ?_)) | (refine IsJ ?_; first | refine J_seq ?_ | refine J_region ?_ | refine J_ret ?_))
  exact At_ret1 rfl rfl rfl (is := []) rfl ⟨congrArg (Value.int .i64) (by unfold packI; omega), rfl⟩
/-- Two heads compared. -/
theorem eqHead (k n p k' n' p' : Int) : EqAgg Try.prog 45 #[.int .i64 k, .int .i64 n, .int .i64 p] #[.int .i64 k', .int .i64 n', .int .i64 p'] (decide (k = k' ∧ n = n' ∧ p = p')) := by
  refine ⟨by kernel_rfl, fun w => ?_⟩
  have e : decide (k = k' ∧ n = n' ∧ p = p') = (k == k' && (n == n' && (p == p' && true))) := by
    rw [Bool.eq_iff_iff]; simp
  rw [e]
  refine equalIn_agg (d := 9999) Try.underlying45 (by kernel_rfl) ?_
  refine eqFields_cons (by rfl) (by go_simp; rfl) (by go_simp; rfl) (by go_simp) ?_
  refine eqFields_cons (by rfl) (by go_simp; rfl) (by go_simp; rfl) (by go_simp) ?_
  refine eqFields_cons (by rfl) (by go_simp; rfl) (by go_simp; rfl) (by go_simp) ?_
  exact eqFields_nil
end Go.Proofs.Ytahfnbpbdnmggaa
/-
  Our own: the law function besomlaw01.HeapTails.
-/
set_option linter.unusedVariables false
set_option linter.unusedSimpArgs false
namespace Go.Proofs.Ytahfnbpbdnmggaa
open Go.Sep
theorem zeroAt_in {ws : List Int} {i k j : Nat} (h : i + k ≤ ws.length) (h1 : i ≤ j) (h2 : j < i + k) : (zeroAt ws i k)[j]? = some 0 := by
  unfold zeroAt
  have e : (ws.take i).length = i := by simp; omega
  rw [List.append_assoc, List.getElem?_append_right (by omega), e, List.getElem?_append_left (by simp; omega), List.getElem?_replicate, if_pos (by omega)]
theorem zeroAt_out {ws : List Int} {i k j : Nat} (h : i + k ≤ ws.length) (h1 : j < i ∨ i + k ≤ j) : (zeroAt ws i k)[j]? = ws[j]? := by
  unfold zeroAt
  have e : (ws.take i).length = i := by simp; omega
  rcases h1 with h1 | h1
  · rw [List.append_assoc, List.getElem?_append_left (by omega), List.getElem?_take_of_lt h1]
  · rw [List.getElem?_append_right (by simp; omega), List.getElem?_drop]
    congr 1
    simp; omega
theorem ofF_len {ws : List Int} {T : Nat} : ∀ {f i : Nat} {st st' : List Bool}, ofF ws T f i st = some st' → st'.length = st.length
  | 0, i, st, st', h => by simp [ofF] at h; rw [h]
  | f + 1, i, st, st', h => by
    simp only [ofF] at h
    split at h
    · split at h
      · split at h
        · rw [ofF_len h]; simp
        · cases h
      · cases h
    · injection h with h; rw [h]
end Go.Proofs.Ytahfnbpbdnmggaa
/-
  Our own: heaps: Walk, with the two functions that besomlaw01.HeapWalks hands it; HeapWalks.
-/
set_option linter.unusedVariables false
set_option linter.unusedSimpArgs false
namespace Go.Proofs.Ytahfnbpbdnmggaa
open Go.Sep
/-- How many objects begin from place i on. -/
def objN (ws : List Int) (T : Nat) : Nat → Nat → Nat
  | 0, _ => 0
  | f + 1, i => if i < T then (match ws[i]? with
      | some w => 1 + objN ws T f (i + 1 + (unN w).toNat)
      | none => 0) else 0
theorem ofF_keep {ws : List Int} {T : Nat} : ∀ {f i : Nat} {st st' : List Bool}, ofF ws T f i st = some st' → ∀ j : Nat, st[j]? = some true → st'[j]? = some true
  | 0, i, st, st', h, j, hj => by simp [ofF] at h; rw [← h]; exact hj
  | f + 1, i, st, st', h, j, hj => by
    simp only [ofF] at h
    split at h
    · split at h
      · split at h
        · refine ofF_keep h j ?_
          rw [List.getElem?_set]
          split
          · rename_i e; subst e
            rw [if_pos (List.getElem?_eq_some_iff.1 hj).1]
          · exact hj
        · cases h
      · cases h
    · injection h with h; rw [← h]; exact hj
/-- What is told by a chain of objects that goes on at place i. -/
theorem ofF_step {ws : List Int} {T f i : Nat} {st st' : List Bool} (h : ofF ws T f i st = some st') (hf : T < i + f) (hi : i < T) (hl : st.length = ws.length) (hT : T ≤ ws.length) :
    ∃ w f', f = f' + 1 ∧ ws[i]? = some w ∧ wordB w = true ∧ i + 1 + (unN w).toNat ≤ T ∧ ofF ws T f' (i + 1 + (unN w).toNat) (st.set i true) = some st' ∧ st'[i]? = some true ∧ objN ws T f i = 1 + objN ws T f' (i + 1 + (unN w).toNat) := by
  cases f with
  | zero => omega
  | succ f =>
    simp only [ofF, if_pos hi] at h
    split at h
    · rename_i w hw
      split at h
      · rename_i hb
        refine ⟨w, f, rfl, hw, hb.1, hb.2, h, ofF_keep h i ?_, by simp only [objN, if_pos hi, hw]⟩
        rw [List.getElem?_set, if_pos rfl, if_pos (by omega)]
      · cases h
    · cases h
theorem eqHead_same (k n p : Int) : EqAgg Try.prog 45 #[.int .i64 k, .int .i64 n, .int .i64 p] #[.int .i64 k, .int .i64 n, .int .i64 p] true := by
  have h := eqHead k n p k n p
  rw [decide_eq_true ⟨rfl, rfl, rfl⟩] at h
  exact h
section ops
variable {p bw bs n bh ba bn bo bat bm bt : Nat} {ws : List Int} {st : List Bool} {T : Nat}
theorem Walk_spec : Does Try.prog 25 [ptr p 0] [] (fun v l => ∃ bh, v = .func (.func 52) #[] #[ptr bh 0] ∧ l = [blk bh [ptr p 0] 29]) := by
  refine Does.of tiok Try.func25 (by kernel_rfl) rfl Try.ntmps25 rfl ?_
  intro W fr
  repeat' (first | (refine IsO ?_; first | refine JO_nil ?_ | (refine IsBox ?_; refine N1 rfl rfl rfl rfl (fun _ => ?_)) | refine V1 rfl rfl rfl ?_) | (refine IsAt ?_; (with_reducible refine T1 ?_)) | (refine IsJ ?_; first | refine J_seq ?_ | refine J_region ?_ | refine J_ret ?_))
  rename_i bh
  exact At_ret rfl rfl (.tmp rfl .nil) rfl (is := [0]) rfl ⟨bh, rfl, rfl⟩
theorem Head_good (i : Nat) (w : Int) (hw : In64 w) (hg : wordB w = true) (hst : st.length = n) (hl : ws.length = n) (ht : (T : Int) ≤ n) (hi : i < T) (hs : st[i]? = some true) (hwi : ws[i]? = some w) :
    Does Try.prog 79 [ptr p 0, .int .i64 i] (heapL p bw bs n ws T st) (fun v l => v = .tuple #[headV (unK w) (unN w) (unP w), .int .i64 0] ∧ l = heapL p bw bs n ws T st) := by
  have h := heapHead_ok (p := p) (bw := bw) (bs := bs) (n := n) (ws := ws) (top := (T : Int)) (st := st) i w hw hst hl ht (by omega) hs hwi
  rw [show unV w = headV (unK w) (unN w) (unP w) by unfold unV; rw [hg]; rfl, show (if wordB w = true then (0 : Int) else 2) = 0 by rw [hg]; rfl] at h
  exact h
end ops
end Go.Proofs.Ytahfnbpbdnmggaa
/-
  Our own: heaps: field, leads, Write, Split; what stays true of a heap.
-/
set_option linter.unusedVariables false
set_option linter.unusedSimpArgs false
namespace Go.Proofs.Ytahfnbpbdnmggaa
open Go.Sep
/-- Where an object begins there is a head, its words end in the heap, and no other object begins in it. -/
structure HInv (n : Nat) (ws : List Int) (st : List Bool) : Prop where
  wl : ws.length = n
  sl : st.length = n
  nb : n ≤ 65536
  w64 : ∀ w ∈ ws, In64 w
  obj : ∀ i : Nat, st[i]? = some true → ∃ w, ws[i]? = some w ∧ wordB w = true ∧ i + 1 + (unN w).toNat ≤ n ∧ ∀ j, i < j → j < i + 1 + (unN w).toNat → st[j]? ≠ some true
end Go.Proofs.Ytahfnbpbdnmggaa
/-
  Our own: heaps: Split; what Of tells stays true; the law function besomlaw01.HeapStays.
-/
set_option linter.unusedVariables false
set_option linter.unusedSimpArgs false
namespace Go.Proofs.Ytahfnbpbdnmggaa
open Go.Sep
theorem zeroAt_mem {ws : List Int} {i k : Nat} {x : Int} (h : x ∈ zeroAt ws i k) : x ∈ ws ∨ x = 0 := by
  unfold zeroAt at h
  rcases List.mem_append.1 h with h | h
  · rcases List.mem_append.1 h with h | h
    · exact .inl (List.mem_of_mem_take h)
    · exact .inr (List.eq_of_mem_replicate h)
  · exact .inl (List.mem_of_mem_drop h)
theorem in64_zero : In64 0 := ⟨by decide, by decide⟩
theorem lay_at {ws : List Int} {i k : Nat} {v : Int} (h : i + 1 + k ≤ ws.length) : (zeroAt (ws.set i v) (i + 1) k)[i]? = some v := by
  rw [zeroAt_out (by simp; omega) (.inl (by omega)), List.getElem?_set, if_pos rfl, if_pos (by omega)]
theorem lay_out {ws : List Int} {i k j : Nat} {v : Int} (h : i + 1 + k ≤ ws.length) (hj : j < i ∨ i + 1 + k ≤ j) : (zeroAt (ws.set i v) (i + 1) k)[j]? = ws[j]? := by
  rw [zeroAt_out (by simp; omega) (by omega), List.getElem?_set_ne (by omega)]
theorem lay_mem {ws : List Int} {i k : Nat} {v x : Int} (h : x ∈ zeroAt (ws.set i v) (i + 1) k) : x ∈ ws ∨ x = v ∨ x = 0 := by
  rcases zeroAt_mem h with h | h
  · rcases List.mem_or_eq_of_mem_set h with h | h
    · exact .inl h
    · exact .inr (.inl h)
  · exact .inr (.inr h)
theorem set_trueB {st : List Bool} {i j : Nat} (h : (st.set i true)[j]? = some true) : j = i ∨ st[j]? = some true := by
  rw [List.getElem?_set] at h
  split at h
  · rename_i e; exact .inl e.symm
  · exact .inr h
end Go.Proofs.Ytahfnbpbdnmggaa
/-
  Our own: heaps with any top: field, leads, astray, Write, Split, Place, and what stays true of a heap and of its references.
-/
set_option linter.unusedVariables false
set_option linter.unusedSimpArgs false
namespace Go.Proofs.Ytahfnbpbdnmggaa
open Go.Sep
/-- A heap of n words, T of which are taken: where an object begins there is a head, its words end where the next one begins. -/
structure HT (n T : Nat) (ws : List Int) (st : List Bool) : Prop where
  wl : ws.length = n
  sl : st.length = n
  nb : n ≤ 65536
  tn : T ≤ n
  w64 : ∀ w ∈ ws, In64 w
  zero : T = 0 ∨ st[0]? = some true
  obj : ∀ i : Nat, st[i]? = some true → ∃ w, ws[i]? = some w ∧ wordB w = true ∧ i + 1 + (unN w).toNat ≤ T ∧ (i + 1 + (unN w).toNat = T ∨ st[i + 1 + (unN w).toNat]? = some true) ∧ ∀ j, i < j → j < i + 1 + (unN w).toNat → st[j]? ≠ some true
theorem HT.lt {n T : Nat} {ws : List Int} {st : List Bool} (h : HT n T ws st) {i : Nat} (hi : st[i]? = some true) : i < T := by
  obtain ⟨w, _, _, h1, _⟩ := h.obj i hi
  omega
def leadsB (ws : List Int) (st : List Bool) (v : Int) : Bool := decide (v = 0 ∨ (1 ≤ v ∧ st[(v - 1).toNat]? = some true ∧ unK (ws.getD (v - 1).toNat 0) ≠ 15))
/-- All references lead to objects. -/
def RefsOk (ws : List Int) (st : List Bool) : Prop := ∀ (i : Nat) (w : Int), st[i]? = some true → ws[i]? = some w → ∀ j : Nat, (j : Int) < unP w → leadsB ws st (ws.getD (i + 1 + j) 0) = true
theorem HT.new {n : Nat} (h : n ≤ 65536) : HT n 0 (List.replicate n 0) (List.replicate n false) :=
  ⟨by simp, by simp, h, Nat.zero_le _, fun w hw => by rw [List.eq_of_mem_replicate hw]; exact in64_zero, .inl rfl, fun i hi => by
    rw [List.getElem?_replicate] at hi
    split at hi <;> cases hi⟩
theorem RefsOk.new {n : Nat} : RefsOk (List.replicate n 0) (List.replicate n false) := fun i w hi => by
  rw [List.getElem?_replicate] at hi
  split at hi <;> cases hi
theorem getD_of {ws : List Int} {i : Nat} {w d : Int} (h : ws[i]? = some w) : ws.getD i d = w := by rw [List.getD_eq_getElem?_getD, h]; rfl
theorem leadsB_zero {ws : List Int} {st : List Bool} : leadsB ws st 0 = true := decide_eq_true (.inl rfl)
/-- What leads somewhere leads there still, where the heads stand as they did. -/
theorem leadsB_keep {ws ws' : List Int} {st st' : List Bool} {v : Int} (h : leadsB ws st v = true) (k : ∀ i : Nat, st[i]? = some true → unK (ws.getD i 0) ≠ 15 → st'[i]? = some true ∧ unK (ws'.getD i 0) ≠ 15) : leadsB ws' st' v = true := by
  rcases of_decide_eq_true h with h | ⟨h1, h2, h3⟩
  · exact decide_eq_true (.inl h)
  · obtain ⟨a, b⟩ := k _ h2 h3
    exact decide_eq_true (.inr ⟨h1, a, b⟩)
section keeps
variable {n T : Nat} {ws : List Int} {st : List Bool}
theorem HT.write (h : HT n T ws st) (i m : Nat) (w word : Int) (hs : st[i]? = some true) (hw : ws[i]? = some w) (hm : (m : Int) < unN w) (h64 : In64 word) : HT n T (ws.set (i + 1 + m) word) st := by
  obtain ⟨w0, b1, b2, b3, b4, b5⟩ := h.obj i hs
  rw [hw] at b1; injection b1 with b1; subst b1
  have hno : st[i + 1 + m]? ≠ some true := b5 _ (by omega) (by omega)
  refine ⟨by simp [h.wl], h.sl, h.nb, h.tn, fun x hx => ?_, h.zero, fun j hj => ?_⟩
  · rcases List.mem_or_eq_of_mem_set hx with hx | rfl
    · exact h.w64 x hx
    · exact h64
  · obtain ⟨w', a1, a2, a3, a4⟩ := h.obj j hj
    refine ⟨w', ?_, a2, a3, a4⟩
    rw [List.getElem?_set_ne (fun e => by subst e; exact hno hj)]
    exact a1
theorem RefsOk.write (h : HT n T ws st) (hR : RefsOk ws st) (i m : Nat) (w word : Int) (hs : st[i]? = some true) (hw : ws[i]? = some w) (hm : (m : Int) < unN w) (hl : (m : Int) < unP w → leadsB ws st word = true) : RefsOk (ws.set (i + 1 + m) word) st := by
  obtain ⟨w0, b1, b2, b3, b4, b5⟩ := h.obj i hs
  rw [hw] at b1; injection b1 with b1; subst b1
  have hno : st[i + 1 + m]? ≠ some true := b5 _ (by omega) (by omega)
  have hwl := h.wl
  have htn := h.tn
  have keep : ∀ q : Nat, st[q]? = some true → (ws.set (i + 1 + m) word)[q]? = ws[q]? := fun q hq => List.getElem?_set_ne (fun e => by subst e; exact hno hq)
  have keepD : ∀ q : Nat, st[q]? = some true → unK (ws.getD q 0) ≠ 15 → st[q]? = some true ∧ unK ((ws.set (i + 1 + m) word).getD q 0) ≠ 15 := fun q hq hk => by
    refine ⟨hq, ?_⟩
    rw [List.getD_eq_getElem?_getD, keep q hq, ← List.getD_eq_getElem?_getD]
    exact hk
  intro q x hq hx j hj
  rw [keep q hq] at hx
  by_cases e : q + 1 + j = i + 1 + m
  · have hqi : q = i := by
      obtain ⟨x0, c1, c2, c3, c4, c5⟩ := h.obj q hq
      rw [hx] at c1; injection c1 with c1; subst c1
      have hg := (un_packI c2).2.1
      have hgb := of_decide_eq_true hg
      rcases Nat.lt_trichotomy q i with c | c | c
      · exact absurd hs (c5 i c (by omega))
      · exact c
      · exact absurd hq (b5 q c (by omega))
    subst hqi
    rw [hw] at hx; injection hx with hx; subst hx
    obtain rfl : j = m := by omega
    rw [List.getD_eq_getElem?_getD, List.getElem?_set, if_pos rfl, if_pos (by omega)]
    exact leadsB_keep (hl hj) keepD
  · rw [List.getD_eq_getElem?_getD, List.getElem?_set_ne (by omega), ← List.getD_eq_getElem?_getD]
    exact leadsB_keep (hR q x hq hx j hj) keepD
theorem HT.place (h : HT n T ws st) {kd pt : Int} {k : Nat} (hg : goodB kd k pt = true) (hf : T + 1 + k ≤ n) : HT n (T + 1 + k) (zeroAt (ws.set T (packI kd k pt)) (T + 1) k) (st.set T true) := by
  obtain ⟨u1, u2, u3, u4, u5⟩ := packI_un hg
  have hwl := h.wl
  have hsl := h.sl
  have hT : (st.set T true)[T]? = some true := by rw [List.getElem?_set, if_pos rfl, if_pos (by omega)]
  refine ⟨by rw [zeroAt_len (by simp; omega)]; simp [hwl], by simp [hsl], h.nb, hf, fun x hx => ?_, .inr ?_, fun j hj => ?_⟩
  · rcases lay_mem hx with hx | rfl | rfl
    · exact h.w64 x hx
    · exact u1
    · exact in64_zero
  · rcases h.zero with e | e
    · rw [← e]; exact hT
    · rw [List.getElem?_set]
      split
      · rename_i e2; rw [if_pos (by omega)]
      · exact e
  · by_cases e : j = T
    · subst e
      refine ⟨_, lay_at (by omega), u2, by rw [u4]; omega, .inl (by rw [u4]; omega), fun q h1 h2 hq => ?_⟩
      rcases set_trueB hq with e | hq
      · omega
      · have := h.lt hq; omega
    · have hj' : st[j]? = some true := by
        rcases set_trueB hj with e' | hj'
        · exact absurd e' e
        · exact hj'
      have hlt := h.lt hj'
      obtain ⟨w', a1, a2, a3, a4, a5⟩ := h.obj j hj'
      refine ⟨w', ?_, a2, by omega, .inr ?_, fun q h1 h2 hq => ?_⟩
      · rw [lay_out (by omega) (.inl hlt)]; exact a1
      · rcases a4 with a4 | a4
        · rw [a4]; exact hT
        · rw [List.getElem?_set]
          split
          · rw [if_pos (by omega)]
          · exact a4
      · rcases set_trueB hq with e2 | hq
        · omega
        · exact a5 q h1 h2 hq
theorem RefsOk.place (h : HT n T ws st) (hR : RefsOk ws st) {kd pt : Int} {k : Nat} (hg : goodB kd k pt = true) (hf : T + 1 + k ≤ n) : RefsOk (zeroAt (ws.set T (packI kd k pt)) (T + 1) k) (st.set T true) := by
  obtain ⟨u1, u2, u3, u4, u5⟩ := packI_un hg
  have hgb := of_decide_eq_true hg
  have hwl := h.wl
  have hsl := h.sl
  have hout : ∀ q : Nat, q < T → (zeroAt (ws.set T (packI kd k pt)) (T + 1) k)[q]? = ws[q]? := fun q hq => lay_out (by omega) (.inl hq)
  have keepD : ∀ q : Nat, st[q]? = some true → unK (ws.getD q 0) ≠ 15 → (st.set T true)[q]? = some true ∧ unK ((zeroAt (ws.set T (packI kd k pt)) (T + 1) k).getD q 0) ≠ 15 := fun q hq hk => by
    have := h.lt hq
    refine ⟨by rw [List.getElem?_set_ne (by omega)]; exact hq, ?_⟩
    rw [List.getD_eq_getElem?_getD, hout q this, ← List.getD_eq_getElem?_getD]
    exact hk
  intro q x hq hx j hj
  by_cases e : q = T
  · subst e
    rw [lay_at (by omega)] at hx
    injection hx with hx
    subst hx
    rw [u5] at hj
    rw [List.getD_eq_getElem?_getD, zeroAt_in (by simp; omega) (by omega) (by omega)]
    exact leadsB_zero
  · have hq' : st[q]? = some true := by
      rcases set_trueB hq with e' | hq'
      · exact absurd e' e
      · exact hq'
    have hlt := h.lt hq'
    rw [hout q hlt] at hx
    obtain ⟨x0, c1, c2, c3, c4, c5⟩ := h.obj q hq'
    rw [hx] at c1; injection c1 with c1; subst c1
    have hgb2 := of_decide_eq_true (un_packI c2).2.1
    rw [List.getD_eq_getElem?_getD, hout _ (by omega), ← List.getD_eq_getElem?_getD]
    exact leadsB_keep (hR q x hq' hx j hj) keepD
/-- Where another start lies, of one that begins at i and ends at e. -/
theorem HT.apart (h : HT n T ws st) {i j : Nat} {w : Int} (hs : st[i]? = some true) (hw : ws[i]? = some w) (hj : st[j]? = some true) (e : j ≠ i) : j < i ∨ i + 1 + (unN w).toNat ≤ j := by
  obtain ⟨w0, b1, b2, b3, b4, b5⟩ := h.obj i hs
  rw [hw] at b1; injection b1 with b1; subst b1
  rcases Nat.lt_or_ge j i with c | c
  · exact .inl c
  · right
    rcases Nat.lt_or_ge j (i + 1 + (unN w).toNat) with d | d
    · exact absurd hj (b5 j (by omega) d)
    · exact d
/-- .. and ends. -/
theorem HT.ends (h : HT n T ws st) {i j : Nat} {x : Int} (hs : st[i]? = some true) (hj : st[j]? = some true) (hx : ws[j]? = some x) (e : j < i) : j + 1 + (unN x).toNat ≤ i := by
  obtain ⟨w0, b1, b2, b3, b4, b5⟩ := h.obj j hj
  rw [hx] at b1; injection b1 with b1; subst b1
  rcases Nat.lt_or_ge i (j + 1 + (unN x).toNat) with d | d
  · exact absurd hs (b5 i e d)
  · exact d
theorem RefsOk.of {ws' : List Int} {st' : List Bool} (hR : RefsOk ws st) (keep : ∀ q : Nat, st[q]? = some true → unK (ws.getD q 0) ≠ 15 → st'[q]? = some true ∧ unK (ws'.getD q 0) ≠ 15)
    (each : ∀ (q : Nat) (x : Int), st'[q]? = some true → ws'[q]? = some x → (∀ j : Nat, (j : Int) < unP x → ws'.getD (q + 1 + j) 0 = 0) ∨ (st[q]? = some true ∧ ws[q]? = some x ∧ ∀ j : Nat, (j : Int) < unP x → ws'.getD (q + 1 + j) 0 = ws.getD (q + 1 + j) 0)) : RefsOk ws' st' := by
  intro q x hq hx j hj
  rcases each q x hq hx with e | ⟨e1, e2, e3⟩
  · rw [e j hj]; exact leadsB_zero
  · rw [e3 j hj]; exact leadsB_keep (hR q x e1 e2 j hj) keep
end keeps
end Go.Proofs.Ytahfnbpbdnmggaa
/-
  Our own: heaps with any top: what field, leads, astray, Write, Split do, with their answers.
-/
set_option linter.unusedVariables false
set_option linter.unusedSimpArgs false
namespace Go.Proofs.Ytahfnbpbdnmggaa
open Go.Sep
def isObj (st : List Bool) (a : Int) : Prop := 0 ≤ a ∧ st[a.toNat]? = some true
instance (st : List Bool) (a : Int) : Decidable (isObj st a) := by unfold isObj; exact inferInstance
section ops
variable {p bw bs n T : Nat} {ws : List Int} {st : List Bool}
theorem HT.is {a : Int} (h : HT n T ws st) (k : isObj st a) : ∃ (i : Nat) (w : Int), a = i ∧ st[i]? = some true ∧ ws[i]? = some w ∧ wordB w = true ∧ i < T ∧ 0 ≤ unN w ∧ unN w ≤ 4095 ∧ i + 1 + (unN w).toNat ≤ T ∧ In64 w ∧ 0 ≤ unP w ∧ unP w ≤ unN w := by
  obtain ⟨i, rfl⟩ := Int.eq_ofNat_of_zero_le k.1
  have hk := k.2
  rw [Int.toNat_natCast] at hk
  obtain ⟨w, a1, a2, a3, a4, a5⟩ := h.obj i hk
  obtain ⟨b1, b2⟩ := unN_in a2
  have hgb := of_decide_eq_true (un_packI a2).2.1
  exact ⟨i, w, rfl, hk, a1, a2, h.lt hk, b1, b2, a3, h.w64 w (List.mem_of_getElem? a1), by omega, by omega⟩
theorem HT.not {a : Int} (h : HT n T ws st) (k : ¬ isObj st a) : ¬ (0 ≤ a ∧ a < T ∧ st[a.toNat]? = some true) := fun e => k ⟨e.1, e.2.2⟩
theorem field_noT (at_ f : Int) (h : HT n T ws st) (hs : ¬ isObj st at_) : Does Try.prog 59 [ptr p 0, .int .i64 at_, .int .i64 f] (heapL p bw bs n ws T st)
    (fun v l => v = .tuple #[headV 0 0 0, .int .i64 3] ∧ l = heapL p bw bs n ws T st) := by
  have htn := h.tn
  refine Does.of tiok Try.func59 (by kernel_rfl) rfl Try.ntmps59 rfl ?_
  intro W fr
  repeat' (first | (refine IsO ?_; first | refine JO_nil ?_ | (refine IsStore ?_; refine S1 rfl rfl rfl rfl rfl rfl rfl (fun _ => ?_)) | (refine IsAlloc ?_; refine N2 rfl rfl rfl rfl (fun _ => ?_)) | (refine IsBuild ?_; refine U1 rfl rfl rfl rfl rfl rfl ?_) | refine V1 rfl rfl rfl ?_) | (refine IsAt ?_; (with_reducible first | refine T1 ?_ | refine T2 ?_ | refine T4 ?_)) | (refine IsJ ?_; first | refine J_seq ?_ | refine J_region ?_ | refine J_block ?_ | refine J_ret ?_ | (refine IsCond ?_; refine J_cond_t rfl ?_)))
  refine JO_l (OL_call [1, 1, 1] rfl rfl rfl (heapHead_no at_ h.sl (by omega) (h.not hs)) rfl) rfl rfl ?_; rintro _ _ ⟨_, ⟨rfl, rfl⟩, rfl⟩
  repeat' (first | (refine IsO ?_; first | refine JO_nil ?_ | (refine IsStore ?_; refine S1 rfl rfl rfl rfl rfl rfl rfl (fun _ => ?_)) | (refine IsAlloc ?_; refine N2 rfl rfl rfl rfl (fun _ => ?_)) | (refine IsBuild ?_; refine U1 rfl rfl rfl rfl rfl rfl ?_) | refine V1 rfl rfl rfl ?_) | (refine IsAt ?_; (with_reducible first | refine T1 ?_ | refine T2 ?_ | refine T4 ?_)) | (refine IsJ ?_; first | refine J_seq ?_ | refine J_region ?_ | refine J_block ?_ | refine J_ret ?_ | (refine IsCond ?_; refine J_cond_t rfl ?_)))
  exact At_ret rfl rfl (.agg rfl rfl rfl (by repeat (first | exact .head _ | refine .tail _ ?_)) rfl (.tmp rfl .nil)) rfl (is := [2, 2, 2]) rfl ⟨rfl, rfl⟩
theorem field_outT (i : Nat) (w f : Int) (h : HT n T ws st) (hs : st[i]? = some true) (hw : ws[i]? = some w) (hg : wordB w = true) (hf : ¬ (0 ≤ f ∧ f < unN w)) : Does Try.prog 59 [ptr p 0, .int .i64 i, .int .i64 f] (heapL p bw bs n ws T st)
    (fun v l => v = .tuple #[headV 0 0 0, .int .i64 4] ∧ l = heapL p bw bs n ws T st) := by
  have hi := h.lt hs
  have htn := h.tn
  refine Does.of tiok Try.func59 (by kernel_rfl) rfl Try.ntmps59 rfl ?_
  intro W fr
  repeat' (first | (refine IsO ?_; first | refine JO_nil ?_ | (refine IsG ?_; refine G1 rfl rfl ?_) | (refine IsMove ?_; refine M5 rfl rfl rfl (fun _ => ?_) (fun _ => ?_)) | (refine IsLoad ?_; refine L1 rfl rfl rfl rfl ?_) | (refine IsStore ?_; refine S1 rfl rfl rfl rfl rfl rfl rfl (fun _ => ?_)) | (refine IsAlloc ?_; refine N2 rfl rfl rfl rfl (fun _ => ?_)) | (refine IsBuild ?_; refine U1 rfl rfl rfl rfl rfl rfl ?_) | refine V1 rfl rfl rfl ?_) | (refine IsAt ?_; (with_reducible first | refine T1 ?_ | refine T2 ?_ | refine T4 ?_)) | (refine IsJ ?_; first | refine J_seq ?_ | refine J_region ?_ | refine J_block ?_ | refine J_ret ?_ | (refine IsCond ?_; first | refine J_cond_t rfl ?_ | refine J_cond_f rfl ?_ | refine K1 rfl ?_)))
  refine JO_l (OL_call [1, 1, 1] rfl rfl rfl (Head_good (T := T) i w (h.w64 w (List.mem_of_getElem? hw)) hg h.sl h.wl (by omega) hi hs hw) rfl) rfl rfl ?_; rintro _ _ ⟨_, ⟨rfl, rfl⟩, rfl⟩
  repeat' (first | (refine IsO ?_; first | refine JO_nil ?_ | (refine IsG ?_; refine G1 rfl rfl ?_) | (refine IsMove ?_; refine M5 rfl rfl rfl (fun _ => ?_) (fun _ => ?_)) | (refine IsLoad ?_; refine L1 rfl rfl rfl rfl ?_) | (refine IsStore ?_; refine S1 rfl rfl rfl rfl rfl rfl rfl (fun _ => ?_)) | (refine IsAlloc ?_; refine N2 rfl rfl rfl rfl (fun _ => ?_)) | (refine IsBuild ?_; refine U1 rfl rfl rfl rfl rfl rfl ?_) | refine V1 rfl rfl rfl ?_) | (refine IsAt ?_; (with_reducible first | refine T1 ?_ | refine T2 ?_ | refine T4 ?_)) | (refine IsJ ?_; first | refine J_seq ?_ | refine J_region ?_ | refine J_block ?_ | refine J_ret ?_ | (refine IsCond ?_; first | refine J_cond_t rfl ?_ | refine J_cond_f rfl ?_ | refine K1 rfl ?_)))
  all_goals first | (exfalso; omega) | exact At_ret rfl rfl (.agg rfl rfl rfl (by repeat (first | exact .head _ | refine .tail _ ?_)) rfl (.tmp rfl .nil)) rfl (is := [2, 2, 2]) rfl ⟨rfl, rfl⟩
theorem field_okT (i : Nat) (w f : Int) (h : HT n T ws st) (hs : st[i]? = some true) (hw : ws[i]? = some w) (hg : wordB w = true) (hf : 0 ≤ f ∧ f < unN w) : Does Try.prog 59 [ptr p 0, .int .i64 i, .int .i64 f] (heapL p bw bs n ws T st)
    (fun v l => v = .tuple #[headV (unK w) (unN w) (unP w), .int .i64 0] ∧ l = heapL p bw bs n ws T st) := by
  have hi := h.lt hs
  have htn := h.tn
  refine Does.of tiok Try.func59 (by kernel_rfl) rfl Try.ntmps59 rfl ?_
  intro W fr
  repeat' (first | (refine IsO ?_; first | refine JO_nil ?_ | (refine IsMove ?_; refine M2 rfl rfl rfl ?_) | (refine IsLoad ?_; first | refine L1 rfl rfl rfl rfl ?_ | refine L2 rfl rfl rfl rfl rfl ?_) | (refine IsStore ?_; refine S1 rfl rfl rfl rfl rfl rfl rfl (fun _ => ?_)) | (refine IsAlloc ?_; refine N2 rfl rfl rfl rfl (fun _ => ?_)) | refine V1 rfl rfl rfl ?_) | (refine IsAt ?_; (with_reducible first | refine T1 ?_ | refine T5 ?_)) | (refine IsJ ?_; first | refine J_seq ?_ | refine J_region ?_ | refine J_block ?_ | refine J_skip ?_ | refine J_ret ?_ | (refine IsCond ?_; first | refine J_cond_f rfl ?_ | refine K2 rfl ?_)))
  refine JO_l (OL_call [1, 1, 1] rfl rfl rfl (Head_good (T := T) i w (h.w64 w (List.mem_of_getElem? hw)) hg h.sl h.wl (by omega) hi hs hw) rfl) rfl rfl ?_; rintro _ _ ⟨_, ⟨rfl, rfl⟩, rfl⟩
  repeat' (first | (refine IsO ?_; first | refine JO_nil ?_ | (refine IsMove ?_; refine M2 rfl rfl rfl ?_) | (refine IsLoad ?_; first | refine L1 rfl rfl rfl rfl ?_ | refine L2 rfl rfl rfl rfl rfl ?_) | (refine IsStore ?_; refine S1 rfl rfl rfl rfl rfl rfl rfl (fun _ => ?_)) | (refine IsAlloc ?_; refine N2 rfl rfl rfl rfl (fun _ => ?_)) | refine V1 rfl rfl rfl ?_) | (refine IsAt ?_; (with_reducible first | refine T1 ?_ | refine T5 ?_)) | (refine IsJ ?_; first | refine J_seq ?_ | refine J_region ?_ | refine J_block ?_ | refine J_skip ?_ | refine J_ret ?_ | (refine IsCond ?_; first | refine J_cond_f rfl ?_ | refine K2 rfl ?_)))
  all_goals first | (exfalso; omega) | exact At_ret rfl rfl (.agg rfl rfl rfl (by repeat (first | exact .head _ | refine .tail _ ?_)) rfl (.tmp rfl .nil)) rfl (is := [2, 2, 2]) rfl ⟨rfl, rfl⟩
theorem leads_spec (word : Int) (h : HT n T ws st) (hw64 : In64 word) : Does Try.prog 60 [ptr p 0, .int .i64 word] (heapL p bw bs n ws T st) (fun v l => v = .bool (leadsB ws st word) ∧ l = heapL p bw bs n ws T st) := by
  have htn := h.tn
  have hnb := h.nb
  obtain ⟨hw1, hw2⟩ := hw64
  refine Does.of tiok Try.func60 (by kernel_rfl) rfl Try.ntmps60 rfl ?_
  intro W fr
  by_cases h0 : word = 0
  · repeat' (first | (refine IsO ?_; first | refine JO_nil ?_ | (refine IsG ?_; refine G1 rfl rfl ?_) | (refine IsMove ?_; first | refine M1 rfl rfl rfl ?_ | refine M2 rfl rfl rfl ?_) | (refine IsBin ?_; refine B2 rfl rfl rfl rfl ?_) | (refine IsLoad ?_; refine L1 rfl rfl rfl rfl ?_) | (refine IsStore ?_; refine S1 rfl rfl rfl rfl rfl rfl rfl (fun _ => ?_)) | (refine IsAlloc ?_; refine N2 rfl rfl rfl rfl (fun _ => ?_)) | refine V1 rfl rfl rfl ?_) | (refine IsAt ?_; (with_reducible first | refine T1 ?_ | refine T2 ?_)) | (refine IsJ ?_; first | refine J_seq ?_ | refine J_region ?_ | refine J_skip ?_ | refine J_ret ?_ | (refine IsCond ?_; first | refine J_cond_f rfl ?_ | refine K1 rfl ?_ | refine K2 rfl ?_)))
    exact At_ret rfl rfl (.tmp rfl .nil) rfl (is := [0, 0, 0]) rfl ⟨by rw [h0, leadsB_zero]; rfl, rfl⟩
  · by_cases hmin : word = -9223372036854775808
    · subst hmin
      repeat' (first | (refine IsO ?_; first | refine JO_nil ?_ | (refine IsG ?_; refine G1 rfl rfl ?_) | (refine IsMove ?_; first | refine M1 rfl rfl rfl ?_ | refine M2 rfl rfl rfl ?_) | (refine IsBin ?_; refine B2 rfl rfl rfl rfl ?_) | (refine IsLoad ?_; refine L1 rfl rfl rfl rfl ?_) | (refine IsStore ?_; refine S1 rfl rfl rfl rfl rfl rfl rfl (fun _ => ?_)) | (refine IsAlloc ?_; refine N2 rfl rfl rfl rfl (fun _ => ?_)) | refine V1 rfl rfl rfl ?_) | (refine IsAt ?_; (with_reducible first | refine T1 ?_ | refine T2 ?_)) | (refine IsJ ?_; first | refine J_seq ?_ | refine J_region ?_ | refine J_skip ?_ | refine J_ret ?_ | (refine IsCond ?_; first | refine J_cond_f rfl ?_ | refine K1 rfl ?_ | refine K2 rfl ?_)))
      rw [show IntKind.wrap .i64 (-9223372036854775808 - 1) = 9223372036854775807 by decide]
      refine JO_l (OL_call [0, 0, 0] rfl rfl rfl (heapHead_no 9223372036854775807 h.sl (by omega) (by omega)) rfl) rfl rfl ?_; rintro _ _ ⟨_, ⟨rfl, rfl⟩, rfl⟩
      repeat' (first | (refine IsO ?_; first | refine JO_nil ?_ | (refine IsG ?_; refine G1 rfl rfl ?_) | (refine IsMove ?_; first | refine M1 rfl rfl rfl ?_ | refine M2 rfl rfl rfl ?_) | (refine IsBin ?_; refine B2 rfl rfl rfl rfl ?_) | (refine IsLoad ?_; refine L1 rfl rfl rfl rfl ?_) | (refine IsStore ?_; refine S1 rfl rfl rfl rfl rfl rfl rfl (fun _ => ?_)) | (refine IsAlloc ?_; refine N2 rfl rfl rfl rfl (fun _ => ?_)) | refine V1 rfl rfl rfl ?_) | (refine IsAt ?_; (with_reducible first | refine T1 ?_ | refine T2 ?_)) | (refine IsJ ?_; first | refine J_seq ?_ | refine J_region ?_ | refine J_skip ?_ | refine J_ret ?_ | (refine IsCond ?_; first | refine J_cond_f rfl ?_ | refine K1 rfl ?_ | refine K2 rfl ?_)))
      exact At_ret rfl rfl (.tmp rfl .nil) rfl (is := [1, 1, 1]) rfl ⟨by
        rw [show leadsB ws st (-9223372036854775808) = false from decide_eq_false (by omega)]; rfl, rfl⟩
    · repeat' (first | (refine IsO ?_; first | refine JO_nil ?_ | (refine IsG ?_; refine G1 rfl rfl ?_) | (refine IsMove ?_; first | refine M1 rfl rfl rfl ?_ | refine M2 rfl rfl rfl ?_) | (refine IsBin ?_; refine B2 rfl rfl rfl rfl ?_) | (refine IsLoad ?_; refine L1 rfl rfl rfl rfl ?_) | (refine IsStore ?_; refine S1 rfl rfl rfl rfl rfl rfl rfl (fun _ => ?_)) | (refine IsAlloc ?_; refine N2 rfl rfl rfl rfl (fun _ => ?_)) | refine V1 rfl rfl rfl ?_) | (refine IsAt ?_; (with_reducible first | refine T1 ?_ | refine T2 ?_)) | (refine IsJ ?_; first | refine J_seq ?_ | refine J_region ?_ | refine J_skip ?_ | refine J_ret ?_ | (refine IsCond ?_; first | refine J_cond_f rfl ?_ | refine K1 rfl ?_ | refine K2 rfl ?_)))
      by_cases hs : isObj st (word - 1)
      · obtain ⟨i, w, hi, hs2, hw, hg, hlt, _, _, _, h64, _, _⟩ := h.is hs
        rw [hi]
        refine JO_l (OL_call [0, 0, 0] rfl rfl rfl (Head_good (T := T) i w h64 hg h.sl h.wl (by omega) hlt hs2 hw) rfl) rfl rfl ?_; rintro _ _ ⟨_, ⟨rfl, rfl⟩, rfl⟩
        have hlb : leadsB ws st word = decide (¬ unK w = 15) := by
          unfold leadsB
          rw [hi, Int.toNat_natCast, getD_of hw]
          exact decide_eq_decide.2 ⟨fun e => by
            rcases e with e | e
            · exact absurd e h0
            · exact e.2.2, fun e => .inr ⟨by omega, hs2, e⟩⟩
        rw [hlb]
        by_cases hk : unK w = 15
        · repeat' (first | (refine IsO ?_; first | refine JO_nil ?_ | (refine IsG ?_; refine G1 rfl rfl ?_) | (refine IsMove ?_; first | refine M1 rfl rfl rfl ?_ | refine M2 rfl rfl rfl ?_) | (refine IsBin ?_; refine B2 rfl rfl rfl rfl ?_) | (refine IsLoad ?_; refine L1 rfl rfl rfl rfl ?_) | (refine IsStore ?_; refine S1 rfl rfl rfl rfl rfl rfl rfl (fun _ => ?_)) | (refine IsAlloc ?_; refine N2 rfl rfl rfl rfl (fun _ => ?_)) | refine V1 rfl rfl rfl ?_) | (refine IsAt ?_; (with_reducible first | refine T1 ?_ | refine T2 ?_)) | (refine IsJ ?_; first | refine J_seq ?_ | refine J_region ?_ | refine J_skip ?_ | refine J_ret ?_ | (refine IsCond ?_; first | refine J_cond_f rfl ?_ | refine K1 rfl ?_ | refine K2 rfl ?_)))
          exact At_ret rfl rfl (.tmp rfl .nil) rfl (is := [1, 1, 1]) rfl ⟨by simp [retV, hk], rfl⟩
        · repeat' (first | (refine IsO ?_; first | refine JO_nil ?_ | (refine IsG ?_; refine G1 rfl rfl ?_) | (refine IsMove ?_; first | refine M1 rfl rfl rfl ?_ | refine M2 rfl rfl rfl ?_) | (refine IsBin ?_; refine B2 rfl rfl rfl rfl ?_) | (refine IsLoad ?_; refine L1 rfl rfl rfl rfl ?_) | (refine IsStore ?_; refine S1 rfl rfl rfl rfl rfl rfl rfl (fun _ => ?_)) | (refine IsAlloc ?_; refine N2 rfl rfl rfl rfl (fun _ => ?_)) | refine V1 rfl rfl rfl ?_) | (refine IsAt ?_; (with_reducible first | refine T1 ?_ | refine T2 ?_)) | (refine IsJ ?_; first | refine J_seq ?_ | refine J_region ?_ | refine J_skip ?_ | refine J_ret ?_ | (refine IsCond ?_; first | refine J_cond_f rfl ?_ | refine K1 rfl ?_ | refine K2 rfl ?_)))
          exact At_ret rfl rfl (.tmp rfl .nil) rfl (is := [1, 1, 1]) rfl ⟨by simp [retV, hk], rfl⟩
      · refine JO_l (OL_call [0, 0, 0] rfl rfl rfl (heapHead_no (word - 1) h.sl (by omega) (h.not hs)) rfl) rfl rfl ?_; rintro _ _ ⟨_, ⟨rfl, rfl⟩, rfl⟩
        repeat' (first | (refine IsO ?_; first | refine JO_nil ?_ | (refine IsG ?_; refine G1 rfl rfl ?_) | (refine IsMove ?_; first | refine M1 rfl rfl rfl ?_ | refine M2 rfl rfl rfl ?_) | (refine IsBin ?_; refine B2 rfl rfl rfl rfl ?_) | (refine IsLoad ?_; refine L1 rfl rfl rfl rfl ?_) | (refine IsStore ?_; refine S1 rfl rfl rfl rfl rfl rfl rfl (fun _ => ?_)) | (refine IsAlloc ?_; refine N2 rfl rfl rfl rfl (fun _ => ?_)) | refine V1 rfl rfl rfl ?_) | (refine IsAt ?_; (with_reducible first | refine T1 ?_ | refine T2 ?_)) | (refine IsJ ?_; first | refine J_seq ?_ | refine J_region ?_ | refine J_skip ?_ | refine J_ret ?_ | (refine IsCond ?_; first | refine J_cond_f rfl ?_ | refine K1 rfl ?_ | refine K2 rfl ?_)))
        exact At_ret rfl rfl (.tmp rfl .nil) rfl (is := [1, 1, 1]) rfl ⟨by
          rw [show leadsB ws st word = false from decide_eq_false (by
            rintro (e | ⟨e1, e2, e3⟩)
            · exact h0 e
            · exact hs ⟨by omega, e2⟩)]; rfl, rfl⟩
theorem astray_spec (word : Int) (h : HT n T ws st) (hw64 : In64 word) : Does Try.prog 92 [ptr p 0, .int .i64 word] (heapL p bw bs n ws T st) (fun v l => v = .bool (!leadsB ws st word) ∧ l = heapL p bw bs n ws T st) := by
  refine Does.of tiok Try.func92 (by kernel_rfl) rfl Try.ntmps92 rfl ?_
  intro W fr
  repeat' (first | (refine IsO ?_; first | refine JO_nil ?_ | refine V1 rfl rfl rfl ?_) | (refine IsAt ?_; (with_reducible refine T1 ?_)) | (refine IsJ ?_; first | refine J_seq ?_ | refine J_region ?_ | refine J_ret ?_))
  refine JO_l (OL_call [0, 0, 0] rfl rfl rfl (leads_spec word h hw64) rfl) rfl rfl ?_; rintro _ _ ⟨_, ⟨rfl, rfl⟩, rfl⟩
  repeat' (first | (refine IsO ?_; first | refine JO_nil ?_ | refine V1 rfl rfl rfl ?_) | (refine IsAt ?_; (with_reducible refine T1 ?_)) | (refine IsJ ?_; first | refine J_seq ?_ | refine J_region ?_ | refine J_ret ?_))
  exact At_ret rfl rfl (.tmp rfl .nil) rfl (is := [0, 0, 0]) rfl ⟨rfl, rfl⟩
/-- What Write answers. -/
def writeC (ws : List Int) (st : List Bool) (at_ f word : Int) : Int :=
  if ¬ isObj st at_ then 3 else if ¬ (0 ≤ f ∧ f < unN (ws.getD at_.toNat 0)) then 4 else if unK (ws.getD at_.toNat 0) = 15 then 4 else if f < unP (ws.getD at_.toNat 0) ∧ leadsB ws st word = false then 5 else 0
def writeW (ws : List Int) (st : List Bool) (at_ f word : Int) : List Int := if writeC ws st at_ f word = 0 then ws.set (at_.toNat + 1 + f.toNat) word else ws
set_option maxHeartbeats 4000000 in
theorem Write_specT (at_ f word : Int) (h : HT n T ws st) (h64 : In64 word) : Does Try.prog 33 [ptr p 0, .int .i64 at_, .int .i64 f, .int .i64 word] (heapL p bw bs n ws T st)
    (fun v l => v = .int .i64 (writeC ws st at_ f word) ∧ l = heapL p bw bs n (writeW ws st at_ f word) T st) := by
  have hwl := h.wl
  have hnb := h.nb
  have htn := h.tn
  refine Does.of tiok Try.func33 (by kernel_rfl) rfl Try.ntmps33 rfl ?_
  intro W fr
  unfold writeW writeC
  by_cases hs : isObj st at_
  case neg =>
    rw [if_pos hs, if_neg (by decide)]
    repeat' (first | (refine IsO ?_; first | refine JO_nil ?_ | (refine IsG ?_; refine G1 rfl rfl ?_) | (refine IsMove ?_; first | refine M1 rfl rfl rfl ?_ | refine M2 rfl rfl rfl ?_) | (refine IsBin ?_; refine B1 rfl rfl rfl rfl ?_) | (refine IsLoad ?_; refine L1 rfl rfl rfl rfl ?_) | (refine IsStore ?_; refine S1 rfl rfl rfl rfl rfl rfl rfl (fun _ => ?_)) | (refine IsAlloc ?_; refine N2 rfl rfl rfl rfl (fun _ => ?_)) | refine V1 rfl rfl rfl ?_) | (refine IsAt ?_; (with_reducible first | refine T1 ?_ | refine T2 ?_ | refine T4 ?_ | refine T5 ?_)) | (refine IsJ ?_; first | refine J_seq ?_ | refine J_region ?_ | refine J_block ?_ | refine J_skip ?_ | refine J_ret ?_ | (refine IsCond ?_; first | refine J_cond_t rfl ?_ | refine J_cond_f rfl ?_ | refine K1 rfl ?_ | refine K2 rfl ?_)))
    refine JO_l (OL_call [0, 0, 0] rfl rfl rfl (field_noT at_ f h hs) rfl) rfl rfl ?_; rintro _ _ ⟨_, ⟨rfl, rfl⟩, rfl⟩
    repeat' (first | (refine IsO ?_; first | refine JO_nil ?_ | (refine IsG ?_; refine G1 rfl rfl ?_) | (refine IsMove ?_; first | refine M1 rfl rfl rfl ?_ | refine M2 rfl rfl rfl ?_) | (refine IsBin ?_; refine B1 rfl rfl rfl rfl ?_) | (refine IsLoad ?_; refine L1 rfl rfl rfl rfl ?_) | (refine IsStore ?_; refine S1 rfl rfl rfl rfl rfl rfl rfl (fun _ => ?_)) | (refine IsAlloc ?_; refine N2 rfl rfl rfl rfl (fun _ => ?_)) | refine V1 rfl rfl rfl ?_) | (refine IsAt ?_; (with_reducible first | refine T1 ?_ | refine T2 ?_ | refine T4 ?_ | refine T5 ?_)) | (refine IsJ ?_; first | refine J_seq ?_ | refine J_region ?_ | refine J_block ?_ | refine J_skip ?_ | refine J_ret ?_ | (refine IsCond ?_; first | refine J_cond_t rfl ?_ | refine J_cond_f rfl ?_ | refine K1 rfl ?_ | refine K2 rfl ?_)))
    exact At_ret rfl rfl (.tmp rfl .nil) rfl (is := [1, 1, 1]) rfl ⟨rfl, rfl⟩
  case pos =>
    rw [if_neg (fun e => e hs)]
    obtain ⟨i, w, rfl, hs2, hw, hg, hlt, hN1, hN2, hle, h64w, hP1, hP2⟩ := h.is hs
    rw [Int.toNat_natCast, getD_of hw]
    by_cases hf : 0 ≤ f ∧ f < unN w
    case neg =>
      rw [if_pos hf, if_neg (by decide)]
      repeat' (first | (refine IsO ?_; first | refine JO_nil ?_ | (refine IsG ?_; refine G1 rfl rfl ?_) | (refine IsMove ?_; first | refine M1 rfl rfl rfl ?_ | refine M2 rfl rfl rfl ?_) | (refine IsBin ?_; refine B1 rfl rfl rfl rfl ?_) | (refine IsLoad ?_; refine L1 rfl rfl rfl rfl ?_) | (refine IsStore ?_; refine S1 rfl rfl rfl rfl rfl rfl rfl (fun _ => ?_)) | (refine IsAlloc ?_; refine N2 rfl rfl rfl rfl (fun _ => ?_)) | refine V1 rfl rfl rfl ?_) | (refine IsAt ?_; (with_reducible first | refine T1 ?_ | refine T2 ?_ | refine T4 ?_ | refine T5 ?_)) | (refine IsJ ?_; first | refine J_seq ?_ | refine J_region ?_ | refine J_block ?_ | refine J_skip ?_ | refine J_ret ?_ | (refine IsCond ?_; first | refine J_cond_t rfl ?_ | refine J_cond_f rfl ?_ | refine K1 rfl ?_ | refine K2 rfl ?_)))
      refine JO_l (OL_call [0, 0, 0] rfl rfl rfl (field_outT i w f h hs2 hw hg hf) rfl) rfl rfl ?_; rintro _ _ ⟨_, ⟨rfl, rfl⟩, rfl⟩
      repeat' (first | (refine IsO ?_; first | refine JO_nil ?_ | (refine IsG ?_; refine G1 rfl rfl ?_) | (refine IsMove ?_; first | refine M1 rfl rfl rfl ?_ | refine M2 rfl rfl rfl ?_) | (refine IsBin ?_; refine B1 rfl rfl rfl rfl ?_) | (refine IsLoad ?_; refine L1 rfl rfl rfl rfl ?_) | (refine IsStore ?_; refine S1 rfl rfl rfl rfl rfl rfl rfl (fun _ => ?_)) | (refine IsAlloc ?_; refine N2 rfl rfl rfl rfl (fun _ => ?_)) | refine V1 rfl rfl rfl ?_) | (refine IsAt ?_; (with_reducible first | refine T1 ?_ | refine T2 ?_ | refine T4 ?_ | refine T5 ?_)) | (refine IsJ ?_; first | refine J_seq ?_ | refine J_region ?_ | refine J_block ?_ | refine J_skip ?_ | refine J_ret ?_ | (refine IsCond ?_; first | refine J_cond_t rfl ?_ | refine J_cond_f rfl ?_ | refine K1 rfl ?_ | refine K2 rfl ?_)))
      exact At_ret rfl rfl (.tmp rfl .nil) rfl (is := [1, 1, 1]) rfl ⟨rfl, rfl⟩
    case pos =>
      rw [if_neg (fun e => e hf)]
      obtain ⟨m, rfl⟩ := Int.eq_ofNat_of_zero_le hf.1
      rw [Int.toNat_natCast]
      by_cases hk : unK w = 15
      · rw [if_pos hk, if_neg (by decide)]
        repeat' (first | (refine IsO ?_; first | refine JO_nil ?_ | (refine IsG ?_; refine G1 rfl rfl ?_) | (refine IsMove ?_; first | refine M1 rfl rfl rfl ?_ | refine M2 rfl rfl rfl ?_) | (refine IsBin ?_; refine B1 rfl rfl rfl rfl ?_) | (refine IsLoad ?_; refine L1 rfl rfl rfl rfl ?_) | (refine IsStore ?_; refine S1 rfl rfl rfl rfl rfl rfl rfl (fun _ => ?_)) | (refine IsAlloc ?_; refine N2 rfl rfl rfl rfl (fun _ => ?_)) | refine V1 rfl rfl rfl ?_) | (refine IsAt ?_; (with_reducible first | refine T1 ?_ | refine T2 ?_ | refine T4 ?_ | refine T5 ?_)) | (refine IsJ ?_; first | refine J_seq ?_ | refine J_region ?_ | refine J_block ?_ | refine J_skip ?_ | refine J_ret ?_ | (refine IsCond ?_; first | refine J_cond_t rfl ?_ | refine J_cond_f rfl ?_ | refine K1 rfl ?_ | refine K2 rfl ?_)))
        refine JO_l (OL_call [0, 0, 0] rfl rfl rfl (field_okT i w m h hs2 hw hg hf) rfl) rfl rfl ?_; rintro _ _ ⟨_, ⟨rfl, rfl⟩, rfl⟩
        repeat' (first | (refine IsO ?_; first | refine JO_nil ?_ | (refine IsG ?_; refine G1 rfl rfl ?_) | (refine IsMove ?_; first | refine M1 rfl rfl rfl ?_ | refine M2 rfl rfl rfl ?_) | (refine IsBin ?_; refine B1 rfl rfl rfl rfl ?_) | (refine IsLoad ?_; refine L1 rfl rfl rfl rfl ?_) | (refine IsStore ?_; refine S1 rfl rfl rfl rfl rfl rfl rfl (fun _ => ?_)) | (refine IsAlloc ?_; refine N2 rfl rfl rfl rfl (fun _ => ?_)) | refine V1 rfl rfl rfl ?_) | (refine IsAt ?_; (with_reducible first | refine T1 ?_ | refine T2 ?_ | refine T4 ?_ | refine T5 ?_)) | (refine IsJ ?_; first | refine J_seq ?_ | refine J_region ?_ | refine J_block ?_ | refine J_skip ?_ | refine J_ret ?_ | (refine IsCond ?_; first | refine J_cond_t rfl ?_ | refine J_cond_f rfl ?_ | refine K1 rfl ?_ | refine K2 rfl ?_)))
        exact At_ret rfl rfl (.tmp rfl .nil) rfl (is := [1, 1, 1]) rfl ⟨rfl, rfl⟩
      · rw [if_neg hk]
        by_cases hp : (m : Int) < unP w
        · cases hld : leadsB ws st word with
          | false =>
            rw [if_pos ⟨hp, rfl⟩, if_neg (by decide)]
            repeat' (first | (refine IsO ?_; first | refine JO_nil ?_ | (refine IsG ?_; refine G1 rfl rfl ?_) | (refine IsMove ?_; first | refine M1 rfl rfl rfl ?_ | refine M2 rfl rfl rfl ?_) | (refine IsBin ?_; refine B1 rfl rfl rfl rfl ?_) | (refine IsLoad ?_; refine L1 rfl rfl rfl rfl ?_) | (refine IsStore ?_; refine S1 rfl rfl rfl rfl rfl rfl rfl (fun _ => ?_)) | (refine IsAlloc ?_; refine N2 rfl rfl rfl rfl (fun _ => ?_)) | refine V1 rfl rfl rfl ?_) | (refine IsAt ?_; (with_reducible first | refine T1 ?_ | refine T2 ?_ | refine T4 ?_ | refine T5 ?_)) | (refine IsJ ?_; first | refine J_seq ?_ | refine J_region ?_ | refine J_block ?_ | refine J_skip ?_ | refine J_ret ?_ | (refine IsCond ?_; first | refine J_cond_t rfl ?_ | refine J_cond_f rfl ?_ | refine K1 rfl ?_ | refine K2 rfl ?_)))
            refine JO_l (OL_call [0, 0, 0] rfl rfl rfl (field_okT i w m h hs2 hw hg hf) rfl) rfl rfl ?_; rintro _ _ ⟨_, ⟨rfl, rfl⟩, rfl⟩
            repeat' (first | (refine IsO ?_; first | refine JO_nil ?_ | (refine IsG ?_; refine G1 rfl rfl ?_) | (refine IsMove ?_; first | refine M1 rfl rfl rfl ?_ | refine M2 rfl rfl rfl ?_) | (refine IsBin ?_; refine B1 rfl rfl rfl rfl ?_) | (refine IsLoad ?_; refine L1 rfl rfl rfl rfl ?_) | (refine IsStore ?_; refine S1 rfl rfl rfl rfl rfl rfl rfl (fun _ => ?_)) | (refine IsAlloc ?_; refine N2 rfl rfl rfl rfl (fun _ => ?_)) | refine V1 rfl rfl rfl ?_) | (refine IsAt ?_; (with_reducible first | refine T1 ?_ | refine T2 ?_ | refine T4 ?_ | refine T5 ?_)) | (refine IsJ ?_; first | refine J_seq ?_ | refine J_region ?_ | refine J_block ?_ | refine J_skip ?_ | refine J_ret ?_ | (refine IsCond ?_; first | refine J_cond_t rfl ?_ | refine J_cond_f rfl ?_ | refine K1 rfl ?_ | refine K2 rfl ?_)))
            refine JO_l (OL_call [1, 1, 1] rfl rfl rfl (leads_spec word h h64) rfl) rfl rfl ?_; rintro _ _ ⟨_, ⟨rfl, rfl⟩, rfl⟩
            rw [hld]
            repeat' (first | (refine IsO ?_; first | refine JO_nil ?_ | (refine IsG ?_; refine G1 rfl rfl ?_) | (refine IsMove ?_; first | refine M1 rfl rfl rfl ?_ | refine M2 rfl rfl rfl ?_) | (refine IsBin ?_; refine B1 rfl rfl rfl rfl ?_) | (refine IsLoad ?_; refine L1 rfl rfl rfl rfl ?_) | (refine IsStore ?_; refine S1 rfl rfl rfl rfl rfl rfl rfl (fun _ => ?_)) | (refine IsAlloc ?_; refine N2 rfl rfl rfl rfl (fun _ => ?_)) | refine V1 rfl rfl rfl ?_) | (refine IsAt ?_; (with_reducible first | refine T1 ?_ | refine T2 ?_ | refine T4 ?_ | refine T5 ?_)) | (refine IsJ ?_; first | refine J_seq ?_ | refine J_region ?_ | refine J_block ?_ | refine J_skip ?_ | refine J_ret ?_ | (refine IsCond ?_; first | refine J_cond_t rfl ?_ | refine J_cond_f rfl ?_ | refine K1 rfl ?_ | refine K2 rfl ?_)))
            exact At_ret rfl rfl (.tmp rfl .nil) rfl (is := [0, 0, 0]) rfl ⟨rfl, rfl⟩
          | true =>
            rw [if_neg (fun e => by cases e.2), if_pos rfl]
            repeat' (first | (refine IsO ?_; first | refine JO_nil ?_ | (refine IsG ?_; refine G1 rfl rfl ?_) | (refine IsMove ?_; first | refine M1 rfl rfl rfl ?_ | refine M2 rfl rfl rfl ?_) | (refine IsBin ?_; refine B1 rfl rfl rfl rfl ?_) | (refine IsLoad ?_; refine L1 rfl rfl rfl rfl ?_) | (refine IsStore ?_; refine S1 rfl rfl rfl rfl rfl rfl rfl (fun _ => ?_)) | (refine IsAlloc ?_; refine N2 rfl rfl rfl rfl (fun _ => ?_)) | refine V1 rfl rfl rfl ?_) | (refine IsAt ?_; (with_reducible first | refine T1 ?_ | refine T2 ?_ | refine T4 ?_ | refine T5 ?_)) | (refine IsJ ?_; first | refine J_seq ?_ | refine J_region ?_ | refine J_block ?_ | refine J_skip ?_ | refine J_ret ?_ | (refine IsCond ?_; first | refine J_cond_t rfl ?_ | refine J_cond_f rfl ?_ | refine K1 rfl ?_ | refine K2 rfl ?_)))
            refine JO_l (OL_call [0, 0, 0] rfl rfl rfl (field_okT i w m h hs2 hw hg hf) rfl) rfl rfl ?_; rintro _ _ ⟨_, ⟨rfl, rfl⟩, rfl⟩
            repeat' (first | (refine IsO ?_; first | refine JO_nil ?_ | (refine IsG ?_; refine G1 rfl rfl ?_) | (refine IsMove ?_; first | refine M1 rfl rfl rfl ?_ | refine M2 rfl rfl rfl ?_) | (refine IsBin ?_; refine B1 rfl rfl rfl rfl ?_) | (refine IsLoad ?_; refine L1 rfl rfl rfl rfl ?_) | (refine IsStore ?_; refine S1 rfl rfl rfl rfl rfl rfl rfl (fun _ => ?_)) | (refine IsAlloc ?_; refine N2 rfl rfl rfl rfl (fun _ => ?_)) | refine V1 rfl rfl rfl ?_) | (refine IsAt ?_; (with_reducible first | refine T1 ?_ | refine T2 ?_ | refine T4 ?_ | refine T5 ?_)) | (refine IsJ ?_; first | refine J_seq ?_ | refine J_region ?_ | refine J_block ?_ | refine J_skip ?_ | refine J_ret ?_ | (refine IsCond ?_; first | refine J_cond_t rfl ?_ | refine J_cond_f rfl ?_ | refine K1 rfl ?_ | refine K2 rfl ?_)))
            refine JO_l (OL_call [1, 1, 1] rfl rfl rfl (leads_spec word h h64) rfl) rfl rfl ?_; rintro _ _ ⟨_, ⟨rfl, rfl⟩, rfl⟩
            rw [hld]
            repeat' (first | (refine IsO ?_; first | refine JO_nil ?_ | (refine IsG ?_; refine G1 rfl rfl ?_) | (refine IsMove ?_; first | refine M1 rfl rfl rfl ?_ | refine M2 rfl rfl rfl ?_) | (refine IsBin ?_; refine B1 rfl rfl rfl rfl ?_) | (refine IsLoad ?_; refine L1 rfl rfl rfl rfl ?_) | (refine IsStore ?_; refine S1 rfl rfl rfl rfl rfl rfl rfl (fun _ => ?_)) | (refine IsAlloc ?_; refine N2 rfl rfl rfl rfl (fun _ => ?_)) | refine V1 rfl rfl rfl ?_) | (refine IsAt ?_; (with_reducible first | refine T1 ?_ | refine T2 ?_ | refine T4 ?_ | refine T5 ?_)) | (refine IsJ ?_; first | refine J_seq ?_ | refine J_region ?_ | refine J_block ?_ | refine J_skip ?_ | refine J_ret ?_ | (refine IsCond ?_; first | refine J_cond_t rfl ?_ | refine J_cond_f rfl ?_ | refine K1 rfl ?_ | refine K2 rfl ?_)))
            refine JO_val (OV_idx (off := i + 1 + m) rfl rfl rfl rfl (by omega) (by omega) (by omega)) rfl rfl ?_
            refine JO_l0 (OL_store rfl rfl rfl rfl rfl rfl P1 (putL_ints word (by omega))) rfl ?_
            rintro _ _ rfl
            repeat' (first | (refine IsO ?_; first | refine JO_nil ?_ | (refine IsG ?_; refine G1 rfl rfl ?_) | (refine IsMove ?_; first | refine M1 rfl rfl rfl ?_ | refine M2 rfl rfl rfl ?_) | (refine IsBin ?_; refine B1 rfl rfl rfl rfl ?_) | (refine IsLoad ?_; refine L1 rfl rfl rfl rfl ?_) | (refine IsStore ?_; refine S1 rfl rfl rfl rfl rfl rfl rfl (fun _ => ?_)) | (refine IsAlloc ?_; refine N2 rfl rfl rfl rfl (fun _ => ?_)) | refine V1 rfl rfl rfl ?_) | (refine IsAt ?_; (with_reducible first | refine T1 ?_ | refine T2 ?_ | refine T4 ?_ | refine T5 ?_)) | (refine IsJ ?_; first | refine J_seq ?_ | refine J_region ?_ | refine J_block ?_ | refine J_skip ?_ | refine J_ret ?_ | (refine IsCond ?_; first | refine J_cond_t rfl ?_ | refine J_cond_f rfl ?_ | refine K1 rfl ?_ | refine K2 rfl ?_)))
            exact At_ret rfl rfl (.tmp rfl .nil) rfl (is := [1, 0, 0]) rfl ⟨rfl, rfl⟩
        · rw [if_neg (fun e => hp e.1), if_pos rfl]
          repeat' (first | (refine IsO ?_; first | refine JO_nil ?_ | (refine IsG ?_; refine G1 rfl rfl ?_) | (refine IsMove ?_; first | refine M1 rfl rfl rfl ?_ | refine M2 rfl rfl rfl ?_) | (refine IsBin ?_; refine B1 rfl rfl rfl rfl ?_) | (refine IsLoad ?_; refine L1 rfl rfl rfl rfl ?_) | (refine IsStore ?_; refine S1 rfl rfl rfl rfl rfl rfl rfl (fun _ => ?_)) | (refine IsAlloc ?_; refine N2 rfl rfl rfl rfl (fun _ => ?_)) | refine V1 rfl rfl rfl ?_) | (refine IsAt ?_; (with_reducible first | refine T1 ?_ | refine T2 ?_ | refine T4 ?_ | refine T5 ?_)) | (refine IsJ ?_; first | refine J_seq ?_ | refine J_region ?_ | refine J_block ?_ | refine J_skip ?_ | refine J_ret ?_ | (refine IsCond ?_; first | refine J_cond_t rfl ?_ | refine J_cond_f rfl ?_ | refine K1 rfl ?_ | refine K2 rfl ?_)))
          refine JO_l (OL_call [0, 0, 0] rfl rfl rfl (field_okT i w m h hs2 hw hg hf) rfl) rfl rfl ?_; rintro _ _ ⟨_, ⟨rfl, rfl⟩, rfl⟩
          repeat' (first | (refine IsO ?_; first | refine JO_nil ?_ | (refine IsG ?_; refine G1 rfl rfl ?_) | (refine IsMove ?_; first | refine M1 rfl rfl rfl ?_ | refine M2 rfl rfl rfl ?_) | (refine IsBin ?_; refine B1 rfl rfl rfl rfl ?_) | (refine IsLoad ?_; refine L1 rfl rfl rfl rfl ?_) | (refine IsStore ?_; refine S1 rfl rfl rfl rfl rfl rfl rfl (fun _ => ?_)) | (refine IsAlloc ?_; refine N2 rfl rfl rfl rfl (fun _ => ?_)) | refine V1 rfl rfl rfl ?_) | (refine IsAt ?_; (with_reducible first | refine T1 ?_ | refine T2 ?_ | refine T4 ?_ | refine T5 ?_)) | (refine IsJ ?_; first | refine J_seq ?_ | refine J_region ?_ | refine J_block ?_ | refine J_skip ?_ | refine J_ret ?_ | (refine IsCond ?_; first | refine J_cond_t rfl ?_ | refine J_cond_f rfl ?_ | refine K1 rfl ?_ | refine K2 rfl ?_)))
          refine JO_val (OV_idx (off := i + 1 + m) rfl rfl rfl rfl (by omega) (by omega) (by omega)) rfl rfl ?_
          refine JO_l0 (OL_store rfl rfl rfl rfl rfl rfl P2 (putL_ints word (by omega))) rfl ?_
          rintro _ _ rfl
          repeat' (first | (refine IsO ?_; first | refine JO_nil ?_ | (refine IsG ?_; refine G1 rfl rfl ?_) | (refine IsMove ?_; first | refine M1 rfl rfl rfl ?_ | refine M2 rfl rfl rfl ?_) | (refine IsBin ?_; refine B1 rfl rfl rfl rfl ?_) | (refine IsLoad ?_; refine L1 rfl rfl rfl rfl ?_) | (refine IsStore ?_; refine S1 rfl rfl rfl rfl rfl rfl rfl (fun _ => ?_)) | (refine IsAlloc ?_; refine N2 rfl rfl rfl rfl (fun _ => ?_)) | refine V1 rfl rfl rfl ?_) | (refine IsAt ?_; (with_reducible first | refine T1 ?_ | refine T2 ?_ | refine T4 ?_ | refine T5 ?_)) | (refine IsJ ?_; first | refine J_seq ?_ | refine J_region ?_ | refine J_block ?_ | refine J_skip ?_ | refine J_ret ?_ | (refine IsCond ?_; first | refine J_cond_t rfl ?_ | refine J_cond_f rfl ?_ | refine K1 rfl ?_ | refine K2 rfl ?_)))
          exact At_ret rfl rfl (.tmp rfl .nil) rfl (is := [2, 0, 1]) rfl ⟨rfl, rfl⟩
theorem HT.writeW (h : HT n T ws st) (at_ f word : Int) (h64 : In64 word) : HT n T (writeW ws st at_ f word) st := by
  unfold Go.Proofs.Ytahfnbpbdnmggaa.writeW
  split
  · rename_i e
    unfold writeC at e
    split at e
    · cases e
    split at e
    · cases e
    rename_i hs hf
    obtain ⟨i, w, rfl, hs2, hw, hg, hlt, hN1, hN2, hle, h64w, hP1, hP2⟩ := h.is (Decidable.not_not.1 hs)
    rw [Int.toNat_natCast, getD_of hw] at hf
    have hf := Decidable.not_not.1 hf
    obtain ⟨m, rfl⟩ := Int.eq_ofNat_of_zero_le hf.1
    exact h.write i m w word hs2 hw hf.2 h64
  · exact h
theorem RefsOk.writeW (h : HT n T ws st) (hR : RefsOk ws st) (at_ f word : Int) : RefsOk (writeW ws st at_ f word) st := by
  unfold Go.Proofs.Ytahfnbpbdnmggaa.writeW
  split
  · rename_i e
    unfold writeC at e
    split at e
    · cases e
    split at e
    · cases e
    rename_i hs hf
    obtain ⟨i, w, rfl, hs2, hw, hg, hlt, hN1, hN2, hle, h64w, hP1, hP2⟩ := h.is (Decidable.not_not.1 hs)
    rw [Int.toNat_natCast, getD_of hw] at e hf
    have hf := Decidable.not_not.1 hf
    obtain ⟨m, rfl⟩ := Int.eq_ofNat_of_zero_le hf.1
    split at e
    · cases e
    split at e
    · cases e
    rename_i _ hn
    refine RefsOk.write h hR i m w word hs2 hw hf.2 (fun hm => ?_)
    cases hl : leadsB ws st word with
    | true => rfl
    | false => exact absurd ⟨hm, hl⟩ hn
  · exact hR
end ops
end Go.Proofs.Ytahfnbpbdnmggaa
/-
  Our own: heaps with any top: what Split does, with its answer; Walk for any function that is called at each object; Check.
-/
set_option linter.unusedVariables false
set_option linter.unusedSimpArgs false
namespace Go.Proofs.Ytahfnbpbdnmggaa
open Go.Sep
/-- What Split answers. -/
def splitC (ws : List Int) (st : List Bool) (at_ kd ln pt : Int) : Int :=
  if ¬ isObj st at_ then 3 else if unK (ws.getD at_.toNat 0) ≠ 15 then 2 else if goodB kd ln pt = false then 1 else if unN (ws.getD at_.toNat 0) < ln then 6 else 0
/-- Is there a rest? -/
def splitR (ws : List Int) (st : List Bool) (at_ kd ln pt : Int) : Prop := splitC ws st at_ kd ln pt = 0 ∧ unN (ws.getD at_.toNat 0) ≠ ln
instance (ws : List Int) (st : List Bool) (at_ kd ln pt : Int) : Decidable (splitR ws st at_ kd ln pt) := by unfold splitR; exact inferInstance
section ops
variable {p bw bs n T : Nat} {ws : List Int} {st : List Bool}
end ops
end Go.Proofs.Ytahfnbpbdnmggaa
/-
  Our own: heaps: Walk for any function that is called at each object; slices.IndexFunc, ContainsFunc of what leads astray; Check.
-/
set_option linter.unusedVariables false
set_option linter.unusedSimpArgs false
namespace Go.Proofs.Ytahfnbpbdnmggaa
open Go.Sep
section ops
variable {p bw bs n T bh : Nat} {ws : List Int} {st : List Bool}
set_option maxHeartbeats 4000000 in
/-- Walk, of a function that is told by what its call does at each object. -/
theorem walkGen {σ : Type} (y : Value) (Y : σ → List HP) (Inv : Nat → σ → Prop) (Stop : σ → Prop) (h : HT n T ws st)
    (hy : ∀ (i : Nat) (w : Int) (s : σ), Inv i s → st[i]? = some true → ws[i]? = some w → wordB w = true → i + 1 + (unN w).toNat ≤ T →
      DoesV Try.prog y [.int .i64 i, headV (unK w) (unN w) (unP w)] (heapL p bw bs n ws T st ++ Y s)
        (fun v l => (v = .bool true ∧ ∃ s', Inv (i + 1 + (unN w).toNat) s' ∧ l = heapL p bw bs n ws T st ++ Y s') ∨ (v = .bool false ∧ ∃ s', Stop s' ∧ l = heapL p bw bs n ws T st ++ Y s')))
    (s0 : σ) (h0 : Inv 0 s0) :
    Does Try.prog 52 [y, ptr bh 0] (blk bh [ptr p 0] 29 :: (heapL p bw bs n ws T st ++ Y s0))
      (fun v l => ∃ s, (Inv T s ∨ Stop s) ∧ v = .tuple #[] ∧ l = blk bh [ptr p 0] 29 :: (heapL p bw bs n ws T st ++ Y s)) := by
  have hwl := h.wl
  have htn := h.tn
  have hnb := h.nb
  refine Does.of tiok Try.func52 (by kernel_rfl) rfl Try.ntmps52 rfl ?_
  intro W fr
  repeat' (first | (refine IsO ?_; first | refine JO_nil ?_ | (refine IsBin ?_; refine B1 rfl rfl rfl rfl ?_) | (refine IsLoad ?_; first | refine L1 rfl rfl rfl rfl ?_ | refine L2 rfl rfl rfl rfl rfl ?_) | (refine IsStore ?_; refine S1 rfl rfl rfl rfl rfl rfl rfl (fun _ => ?_)) | (refine IsAlloc ?_; refine N2 rfl rfl rfl rfl (fun _ => ?_)) | refine V1 rfl rfl rfl ?_) | (refine IsAt ?_; first | (with_reducible first | refine T1 ?_ | refine T2 ?_ | refine T3 ?_ | refine T4 ?_ | refine T5 ?_ | refine T6 ?_ | refine T7 ?_) | ((with_reducible show At _ (PBlock _ _ (Exit.exit _)) _ _); refine At_block_hit ?_)) | (refine IsJ ?_; first | refine J_seq ?_ | refine J_region ?_ | refine J_block ?_ | refine J_skip ?_ | refine J_ret ?_ | refine J_exit ?_ | (refine IsCond ?_; first | refine J_cond_t rfl ?_ | refine J_cond_f rfl ?_ | refine J_cb rfl (fun _ => ?_) (fun _ => ?_))))
  refine J_loop (α := Nat × σ) (fun x => x.1 ≤ T ∧ (x.1 = T ∨ st[x.1]? = some true) ∧ Inv x.1 x.2)
    (fun x => [(0, y), (1, ptr bh 0), (3, .int .i64 x.1)])
    (fun x => blk bh [ptr p 0] 29 :: (heapL p bw bs n ws T st ++ Y x.2)) (fun x => T - x.1) (0, s0) ⟨Nat.zero_le _, h.zero.imp (fun e => e.symm) id, h0⟩ (by repeat (first | exact True.intro | refine And.intro rfl ?_)) (fun H hl => hl) ?_
  rintro ⟨i, s⟩ ⟨hi, hz, hI⟩
  dsimp only at hi hz hI ⊢
  repeat' (first | (refine IsO ?_; first | refine JO_nil ?_ | (refine IsBin ?_; refine B1 rfl rfl rfl rfl ?_) | (refine IsLoad ?_; first | refine L1 rfl rfl rfl rfl ?_ | refine L2 rfl rfl rfl rfl rfl ?_) | (refine IsStore ?_; refine S1 rfl rfl rfl rfl rfl rfl rfl (fun _ => ?_)) | (refine IsAlloc ?_; refine N2 rfl rfl rfl rfl (fun _ => ?_)) | refine V1 rfl rfl rfl ?_) | (refine IsAt ?_; first | (with_reducible first | refine T1 ?_ | refine T2 ?_ | refine T3 ?_ | refine T4 ?_ | refine T5 ?_ | refine T6 ?_ | refine T7 ?_) | ((with_reducible show At _ (PBlock _ _ (Exit.exit _)) _ _); refine At_block_hit ?_)) | (refine IsJ ?_; first | refine J_seq ?_ | refine J_region ?_ | refine J_block ?_ | refine J_skip ?_ | refine J_ret ?_ | refine J_exit ?_ | (refine IsCond ?_; first | refine J_cond_t rfl ?_ | refine J_cond_f rfl ?_ | refine J_cb rfl (fun _ => ?_) (fun _ => ?_))))
  · rename_i hlt
    have hs : st[i]? = some true := by
      rcases hz with e | e
      · omega
      · exact e
    obtain ⟨w, hw, hg, hle, hnx, _⟩ := h.obj i hs
    obtain ⟨hN1, hN2⟩ := unN_in hg
    refine JO_val (OV_idx (off := i) rfl rfl rfl rfl (by omega) (by omega) (by simp)) rfl rfl ?_
    refine JO_q (OQ_load (v := .int .i64 w) rfl rfl (by repeat (first | exact .head _ | refine .tail _ ?_)) (by simp [intsV, hw])) rfl rfl ?_
    refine JO_l (OL_call [] rfl rfl rfl (Unpack_good (h.w64 w (List.mem_of_getElem? hw)) hg) rfl) rfl rfl ?_; rintro _ _ ⟨_, ⟨rfl, rfl⟩, rfl⟩
    repeat' (first | (refine IsO ?_; first | refine JO_nil ?_ | (refine IsBin ?_; refine B1 rfl rfl rfl rfl ?_) | (refine IsLoad ?_; first | refine L1 rfl rfl rfl rfl ?_ | refine L2 rfl rfl rfl rfl rfl ?_) | (refine IsStore ?_; refine S1 rfl rfl rfl rfl rfl rfl rfl (fun _ => ?_)) | (refine IsAlloc ?_; refine N2 rfl rfl rfl rfl (fun _ => ?_)) | refine V1 rfl rfl rfl ?_) | (refine IsAt ?_; first | (with_reducible first | refine T1 ?_ | refine T2 ?_ | refine T3 ?_ | refine T4 ?_ | refine T5 ?_ | refine T6 ?_ | refine T7 ?_) | ((with_reducible show At _ (PBlock _ _ (Exit.exit _)) _ _); refine At_block_hit ?_)) | (refine IsJ ?_; first | refine J_seq ?_ | refine J_region ?_ | refine J_block ?_ | refine J_skip ?_ | refine J_ret ?_ | refine J_exit ?_ | (refine IsCond ?_; first | refine J_cond_t rfl ?_ | refine J_cond_f rfl ?_ | refine J_cb rfl (fun _ => ?_) (fun _ => ?_))))
    rename_i bx _
    refine JO_l (OL_callV rfl rfl (hy i w s hI hs hw hg hle) (r := [blk bx [.int .i64 (unK w), .int .i64 (unN w), .int .i64 (unP w)] 45, blk bh [ptr p 0] 29]) ?_) rfl rfl ?_
    · exact List.perm_append_comm (l₁ := [blk bx [.int .i64 (unK w), .int .i64 (unN w), .int .i64 (unP w)] 45, blk bh [ptr p 0] 29])
    rintro _ _ ⟨_, ⟨rfl, s', hI', rfl⟩ | ⟨rfl, s', hI', rfl⟩, rfl⟩
    · refine JO_hp (l' := blk bx [.int .i64 (unK w), .int .i64 (unN w), .int .i64 (unP w)] 45 :: blk bh [ptr p 0] 29 :: (heapL p bw bs n ws T st ++ Y s')) (fun H hl => hl.perm List.perm_append_comm) ?_
      repeat' (first | (refine IsO ?_; first | refine JO_nil ?_ | (refine IsBin ?_; refine B1 rfl rfl rfl rfl ?_) | (refine IsLoad ?_; first | refine L1 rfl rfl rfl rfl ?_ | refine L2 rfl rfl rfl rfl rfl ?_) | (refine IsStore ?_; refine S1 rfl rfl rfl rfl rfl rfl rfl (fun _ => ?_)) | (refine IsAlloc ?_; refine N2 rfl rfl rfl rfl (fun _ => ?_)) | refine V1 rfl rfl rfl ?_) | (refine IsAt ?_; first | (with_reducible first | refine T1 ?_ | refine T2 ?_ | refine T3 ?_ | refine T4 ?_ | refine T5 ?_ | refine T6 ?_ | refine T7 ?_) | ((with_reducible show At _ (PBlock _ _ (Exit.exit _)) _ _); refine At_block_hit ?_)) | (refine IsJ ?_; first | refine J_seq ?_ | refine J_region ?_ | refine J_block ?_ | refine J_skip ?_ | refine J_ret ?_ | refine J_exit ?_ | (refine IsCond ?_; first | refine J_cond_t rfl ?_ | refine J_cond_f rfl ?_ | refine J_cb rfl (fun _ => ?_) (fun _ => ?_))))
      rw [show ((i : Int) + (1 + unN w)) = ((i + 1 + (unN w).toNat : Nat) : Int) by omega]
      exact At_round (i + 1 + (unN w).toNat, s') (by show T - (i + 1 + (unN w).toNat) < T - i; omega) ⟨hle, hnx, hI'⟩ (by repeat (first | exact True.intro | refine And.intro rfl ?_)) (fun H hl => hl.tail)
    · refine JO_hp (l' := blk bh [ptr p 0] 29 :: (heapL p bw bs n ws T st ++ Y s')) (fun H hl => (hl.perm List.perm_append_comm).tail) ?_
      repeat' (first | (refine IsO ?_; first | refine JO_nil ?_ | (refine IsBin ?_; refine B1 rfl rfl rfl rfl ?_) | (refine IsLoad ?_; first | refine L1 rfl rfl rfl rfl ?_ | refine L2 rfl rfl rfl rfl rfl ?_) | (refine IsStore ?_; refine S1 rfl rfl rfl rfl rfl rfl rfl (fun _ => ?_)) | (refine IsAlloc ?_; refine N2 rfl rfl rfl rfl (fun _ => ?_)) | refine V1 rfl rfl rfl ?_) | (refine IsAt ?_; first | (with_reducible first | refine T1 ?_ | refine T2 ?_ | refine T3 ?_ | refine T4 ?_ | refine T5 ?_ | refine T6 ?_ | refine T7 ?_) | ((with_reducible show At _ (PBlock _ _ (Exit.exit _)) _ _); refine At_block_hit ?_)) | (refine IsJ ?_; first | refine J_seq ?_ | refine J_region ?_ | refine J_block ?_ | refine J_skip ?_ | refine J_ret ?_ | refine J_exit ?_ | (refine IsCond ?_; first | refine J_cond_t rfl ?_ | refine J_cond_f rfl ?_ | refine J_cb rfl (fun _ => ?_) (fun _ => ?_))))
      exact At_ret' rfl rfl .nil rfl (fun H hl => hl) ⟨s', .inr hI', rfl, rfl⟩
  · have hii : i = T := by omega
    subst hii
    exact At_end' rfl rfl .nil rfl (fun H hl => hl) ⟨s, .inl hI, rfl, rfl⟩
abbrev astrayV (p : Nat) : Value := .func (.func 92) #[ptr p 0] #[]
set_option maxHeartbeats 4000000 in
theorem IndexFunc_spec (o m cap : Nat) (h : HT n T ws st) (hm : o + m ≤ n) (hmc : m ≤ cap) : Does Try.prog 98 [.slice (some ⟨bw, o, none⟩) m cap, astrayV p] (heapL p bw bs n ws T st)
    (fun v l => ∃ r : Int, (-1 ≤ r ∧ r < m ∧ (0 ≤ r ↔ ∃ j : Nat, j < m ∧ leadsB ws st (ws.getD (o + j) 0) = false)) ∧ v = .int .i64 r ∧ l = heapL p bw bs n ws T st) := by
  have hwl := h.wl
  have hnb := h.nb
  refine Does.of tiok Try.func98 (by kernel_rfl) rfl Try.ntmps98 rfl ?_
  intro W fr
  repeat' (first | (refine IsO ?_; first | refine JO_nil ?_ | (refine IsBin ?_; refine B1 rfl rfl rfl rfl ?_) | refine V1 rfl rfl rfl ?_) | (refine IsAt ?_; first | (with_reducible first | refine T1 ?_ | refine T2 ?_ | refine T3 ?_ | refine T4 ?_ | refine T5 ?_ | refine T6 ?_ | refine T7 ?_) | ((with_reducible show At _ (PBlock _ _ (Exit.exit _)) _ _); refine At_block_hit ?_)) | (refine IsJ ?_; first | refine J_seq ?_ | refine J_region ?_ | refine J_block ?_ | refine J_skip ?_ | refine J_ret ?_ | refine J_exit ?_ | (refine IsCond ?_; first | refine J_cond_t rfl ?_ | refine J_cond_f rfl ?_ | refine J_cb rfl (fun _ => ?_) (fun _ => ?_))))
  refine J_loop (α := Nat) (fun q => q ≤ m ∧ ∀ j, j < q → leadsB ws st (ws.getD (o + j) 0) = true)
    (fun q => [(0, .slice (some ⟨bw, o, none⟩) m cap), (1, astrayV p), (7, .int .i64 m), (8, .int .i64 q)])
    (fun q => heapL p bw bs n ws T st) (fun q => m - q) 0 ⟨Nat.zero_le _, fun j hj => absurd hj (Nat.not_lt_zero _)⟩ (by repeat (first | exact True.intro | refine And.intro rfl ?_)) (fun H hl => hl) ?_
  rintro q ⟨hq, hj⟩
  repeat' (first | (refine IsO ?_; first | refine JO_nil ?_ | (refine IsBin ?_; refine B1 rfl rfl rfl rfl ?_) | refine V1 rfl rfl rfl ?_) | (refine IsAt ?_; first | (with_reducible first | refine T1 ?_ | refine T2 ?_ | refine T3 ?_ | refine T4 ?_ | refine T5 ?_ | refine T6 ?_ | refine T7 ?_) | ((with_reducible show At _ (PBlock _ _ (Exit.exit _)) _ _); refine At_block_hit ?_)) | (refine IsJ ?_; first | refine J_seq ?_ | refine J_region ?_ | refine J_block ?_ | refine J_skip ?_ | refine J_ret ?_ | refine J_exit ?_ | (refine IsCond ?_; first | refine J_cond_t rfl ?_ | refine J_cond_f rfl ?_ | refine J_cb rfl (fun _ => ?_) (fun _ => ?_))))
  · rename_i hlt
    obtain ⟨w, hw⟩ : ∃ w, ws[o + q]? = some w := ⟨ws[o + q]'(by omega), List.getElem?_eq_getElem _⟩
    refine JO_val (OV_idx (off := o + q) rfl rfl rfl rfl (by omega) (by omega) (by simp)) rfl rfl ?_
    refine JO_q (OQ_load (v := .int .i64 w) rfl rfl (by repeat (first | exact .head _ | refine .tail _ ?_)) (by simp [intsV, hw])) rfl rfl ?_
    refine JO_l (OL_call [0, 0, 0] rfl rfl rfl (astray_spec w h (h.w64 w (List.mem_of_getElem? hw))) rfl) rfl rfl ?_; rintro _ _ ⟨_, ⟨rfl, rfl⟩, rfl⟩
    cases hl : leadsB ws st w with
    | true =>
      repeat' (first | (refine IsO ?_; first | refine JO_nil ?_ | (refine IsBin ?_; refine B1 rfl rfl rfl rfl ?_) | refine V1 rfl rfl rfl ?_) | (refine IsAt ?_; first | (with_reducible first | refine T1 ?_ | refine T2 ?_ | refine T3 ?_ | refine T4 ?_ | refine T5 ?_ | refine T6 ?_ | refine T7 ?_) | ((with_reducible show At _ (PBlock _ _ (Exit.exit _)) _ _); refine At_block_hit ?_)) | (refine IsJ ?_; first | refine J_seq ?_ | refine J_region ?_ | refine J_block ?_ | refine J_skip ?_ | refine J_ret ?_ | refine J_exit ?_ | (refine IsCond ?_; first | refine J_cond_t rfl ?_ | refine J_cond_f rfl ?_ | refine J_cb rfl (fun _ => ?_) (fun _ => ?_))))
      refine At_round (q + 1) (by show m - (q + 1) < m - q; omega) ⟨by omega, fun j hj2 => ?_⟩ (by repeat (first | exact True.intro | refine And.intro rfl ?_)) (fun H hl => hl)
      by_cases e : j = q
      · subst e; rw [getD_of hw]; exact hl
      · exact hj j (by omega)
    | false =>
      repeat' (first | (refine IsO ?_; first | refine JO_nil ?_ | (refine IsBin ?_; refine B1 rfl rfl rfl rfl ?_) | refine V1 rfl rfl rfl ?_) | (refine IsAt ?_; first | (with_reducible first | refine T1 ?_ | refine T2 ?_ | refine T3 ?_ | refine T4 ?_ | refine T5 ?_ | refine T6 ?_ | refine T7 ?_) | ((with_reducible show At _ (PBlock _ _ (Exit.exit _)) _ _); refine At_block_hit ?_)) | (refine IsJ ?_; first | refine J_seq ?_ | refine J_region ?_ | refine J_block ?_ | refine J_skip ?_ | refine J_ret ?_ | refine J_exit ?_ | (refine IsCond ?_; first | refine J_cond_t rfl ?_ | refine J_cond_f rfl ?_ | refine J_cb rfl (fun _ => ?_) (fun _ => ?_))))
      exact At_ret rfl rfl (.tmp rfl .nil) rfl (is := [0, 0, 0]) rfl ⟨q, ⟨by omega, by omega, fun _ => ⟨q, by omega, by rw [getD_of hw]; exact hl⟩, fun _ => by omega⟩, rfl, rfl⟩
  · obtain rfl : q = m := by omega
    exact At_ret rfl rfl (.tmp rfl .nil) rfl (is := [0, 0, 0]) rfl ⟨-1, ⟨by omega, by omega, fun h => absurd h (by decide), fun ⟨j, h1, h2⟩ => by rw [hj j h1] at h2; cases h2⟩, rfl, rfl⟩
theorem ContainsFunc_spec (o m cap : Nat) (h : HT n T ws st) (hm : o + m ≤ n) (hmc : m ≤ cap) : Does Try.prog 91 [.slice (some ⟨bw, o, none⟩) m cap, astrayV p] (heapL p bw bs n ws T st)
    (fun v l => ∃ t : Bool, (t = true ↔ ∃ j : Nat, j < m ∧ leadsB ws st (ws.getD (o + j) 0) = false) ∧ v = .bool t ∧ l = heapL p bw bs n ws T st) := by
  refine Does.of tiok Try.func91 (by kernel_rfl) rfl Try.ntmps91 rfl ?_
  intro W fr
  repeat' (first | (refine IsO ?_; first | refine JO_nil ?_ | refine V1 rfl rfl rfl ?_) | (refine IsAt ?_; (with_reducible refine T1 ?_)) | (refine IsJ ?_; first | refine J_seq ?_ | refine J_region ?_ | refine J_ret ?_))
  refine JO_l (OL_call [0, 0, 0] rfl rfl rfl (IndexFunc_spec o m cap h hm hmc) rfl) rfl rfl ?_
  rintro _ _ ⟨_, ⟨r, ⟨hr1, hr2, hr3⟩, rfl, rfl⟩, rfl⟩
  by_cases h0 : 0 ≤ r
  · repeat' (first | (refine IsO ?_; first | refine JO_nil ?_ | refine V1 rfl rfl rfl ?_) | (refine IsAt ?_; (with_reducible refine T1 ?_)) | (refine IsJ ?_; first | refine J_seq ?_ | refine J_region ?_ | refine J_ret ?_))
    exact At_ret rfl rfl (.tmp rfl .nil) rfl (is := [0, 0, 0]) rfl ⟨true, ⟨fun _ => hr3.1 h0, fun _ => rfl⟩, by simp [retV, h0], rfl⟩
  · repeat' (first | (refine IsO ?_; first | refine JO_nil ?_ | refine V1 rfl rfl rfl ?_) | (refine IsAt ?_; (with_reducible refine T1 ?_)) | (refine IsJ ?_; first | refine J_seq ?_ | refine J_region ?_ | refine J_ret ?_))
    exact At_ret rfl rfl (.tmp rfl .nil) rfl (is := [0, 0, 0]) rfl ⟨false, ⟨fun e => absurd e (by decide), fun e => absurd (hr3.2 e) h0⟩, by simp [retV]; omega, rfl⟩
/-- Does all that an object holds lead somewhere? -/
def objOk (ws : List Int) (st : List Bool) (i : Nat) (w : Int) : Prop := ∀ j : Nat, (j : Int) < unP w → leadsB ws st (ws.getD (i + 1 + j) 0) = true
set_option maxHeartbeats 8000000 in
theorem Check_spec (h : HT n T ws st) : Does Try.prog 77 [ptr p 0] (heapL p bw bs n ws T st)
    (fun v l => ∃ t : Bool, (t = true ↔ RefsOk ws st) ∧ v = .int .i64 (if t then 0 else 5) ∧ l = heapL p bw bs n ws T st) := by
  have hwl := h.wl
  have htn := h.tn
  have hnb := h.nb
  refine Does.ofM tiok Try.func77 (by kernel_rfl) rfl Try.ntmps77 rfl ?_
  intro W fr
  repeat' (first | (refine IsO ?_; first | refine JO_nil ?_ | (refine IsLoad ?_; refine L1 rfl rfl rfl rfl ?_) | (refine IsStore ?_; refine S1 rfl rfl rfl rfl rfl rfl rfl (fun _ => ?_)) | (refine IsBox ?_; refine N1 rfl rfl rfl rfl (fun _ => ?_)) | (refine IsAlloc ?_; refine N2 rfl rfl rfl rfl (fun _ => ?_)) | refine V1 rfl rfl rfl ?_) | (refine IsAt ?_; first | (with_reducible first | refine T1 ?_ | refine T3 ?_ | refine T4 ?_) | ((with_reducible show At _ (PBlock _ _ (Exit.exit _)) _ _); refine At_block_hit ?_)) | (refine IsJ ?_; first | refine J_seq ?_ | refine J_region ?_ | refine J_block ?_ | refine J_skip ?_ | refine J_ret ?_ | refine J_exit ?_ | (refine IsCond ?_; first | refine J_cond_t rfl ?_ | refine J_cond_f rfl ?_)))
  refine JO_l (OL_call [] rfl rfl rfl (Walk_spec) rfl) rfl rfl ?_; rintro _ _ ⟨_, ⟨bh, rfl, rfl⟩, rfl⟩
  repeat' (first | (refine IsO ?_; first | refine JO_nil ?_ | (refine IsLoad ?_; refine L1 rfl rfl rfl rfl ?_) | (refine IsStore ?_; refine S1 rfl rfl rfl rfl rfl rfl rfl (fun _ => ?_)) | (refine IsBox ?_; refine N1 rfl rfl rfl rfl (fun _ => ?_)) | (refine IsAlloc ?_; refine N2 rfl rfl rfl rfl (fun _ => ?_)) | refine V1 rfl rfl rfl ?_) | (refine IsAt ?_; first | (with_reducible first | refine T1 ?_ | refine T3 ?_ | refine T4 ?_) | ((with_reducible show At _ (PBlock _ _ (Exit.exit _)) _ _); refine At_block_hit ?_)) | (refine IsJ ?_; first | refine J_seq ?_ | refine J_region ?_ | refine J_block ?_ | refine J_skip ?_ | refine J_ret ?_ | refine J_exit ?_ | (refine IsCond ?_; first | refine J_cond_t rfl ?_ | refine J_cond_f rfl ?_)))
  rename_i b1 b2
  refine J_rangeFunc (ps := [7, 8]) rfl (fun k d R hrec => ?_)
  let Y : Bool → List HP := fun t => bif t then [pt k (.loop (R .done (some .ret))), pt d (.deferred (some [])), blk b2 [.int .i64 5] 37, blk b1 [ptr p 0] 29] else [pt k (.loop (R .ready none)), pt d (.deferred (some [])), blk b2 [.int .i64 0] 37, blk b1 [ptr p 0] 29]
  let Inv : Nat → Bool → Prop := fun i t => t = false ∧ ∀ (q : Nat) (w : Int), q < i → st[q]? = some true → ws[q]? = some w → objOk ws st q w
  let Stop : Bool → Prop := fun t => t = true ∧ ∃ (q : Nat) (w : Int), st[q]? = some true ∧ ws[q]? = some w ∧ ¬ objOk ws st q w
  have hy : ∀ (i : Nat) (w : Int) (s : Bool), Inv i s → st[i]? = some true → ws[i]? = some w → wordB w = true → i + 1 + (unN w).toNat ≤ T →
      DoesV Try.prog (.func (.yield k) #[] #[]) [.int .i64 i, headV (unK w) (unN w) (unP w)] (heapL p bw bs n ws T st ++ Y s)
        (fun v l => (v = .bool true ∧ ∃ s', Inv (i + 1 + (unN w).toNat) s' ∧ l = heapL p bw bs n ws T st ++ Y s') ∨ (v = .bool false ∧ ∃ s', Stop s' ∧ l = heapL p bw bs n ws T st ++ Y s')) := by
    rintro i w s ⟨rfl, hI⟩ hs hw hg hle
    obtain ⟨hN1, hN2⟩ := unN_in hg
    have hgb := of_decide_eq_true (un_packI hg).2.1
    refine DoesV.pre (pre := pt k (.loop (R .ready none)) :: (heapL p bw bs n ws T st ++ [pt d (.deferred (some [])), blk b2 [.int .i64 0] 37, blk b1 [ptr p 0] 29])) ?_ (fun H hl => hl.perm (picks_perm (is := [3]) rfl))
    refine DoesV.yield hrec rfl (by decide) ?_
    intro W fr
    refine J_regs (g' := [(1, ptr b1 0), (2, ptr b2 0), (7, .int .i64 i), (8, headV (unK w) (unN w) (unP w))]) (by repeat (first | exact True.intro | refine And.intro rfl ?_)) ?_
    repeat' (first | (refine IsO ?_; first | refine JO_nil ?_ | (refine IsLoad ?_; refine L1 rfl rfl rfl rfl ?_) | (refine IsStore ?_; refine S1 rfl rfl rfl rfl rfl rfl rfl (fun _ => ?_)) | (refine IsBox ?_; refine N1 rfl rfl rfl rfl (fun _ => ?_)) | (refine IsAlloc ?_; refine N2 rfl rfl rfl rfl (fun _ => ?_)) | refine V1 rfl rfl rfl ?_) | (refine IsAt ?_; first | (with_reducible first | refine T1 ?_ | refine T3 ?_ | refine T4 ?_) | ((with_reducible show At _ (PBlock _ _ (Exit.exit _)) _ _); refine At_block_hit ?_)) | (refine IsJ ?_; first | refine J_seq ?_ | refine J_region ?_ | refine J_block ?_ | refine J_skip ?_ | refine J_ret ?_ | refine J_exit ?_ | (refine IsCond ?_; first | refine J_cond_t rfl ?_ | refine J_cond_f rfl ?_)))
    rename_i b4 _
    refine At_asg hrec P1 ?_
    repeat' (first | (refine IsO ?_; first | refine JO_nil ?_ | (refine IsLoad ?_; refine L1 rfl rfl rfl rfl ?_) | (refine IsStore ?_; refine S1 rfl rfl rfl rfl rfl rfl rfl (fun _ => ?_)) | (refine IsBox ?_; refine N1 rfl rfl rfl rfl (fun _ => ?_)) | (refine IsAlloc ?_; refine N2 rfl rfl rfl rfl (fun _ => ?_)) | refine V1 rfl rfl rfl ?_) | (refine IsAt ?_; first | (with_reducible first | refine T1 ?_ | refine T3 ?_ | refine T4 ?_) | ((with_reducible show At _ (PBlock _ _ (Exit.exit _)) _ _); refine At_block_hit ?_)) | (refine IsJ ?_; first | refine J_seq ?_ | refine J_region ?_ | refine J_block ?_ | refine J_skip ?_ | refine J_ret ?_ | refine J_exit ?_ | (refine IsCond ?_; first | refine J_cond_t rfl ?_ | refine J_cond_f rfl ?_)))
    refine J_draw [1, 0, 0, 1, 0, 0, 0, 0, 0, 1, 0, 0, 1, 0, 2, 0] (List.range 16) (by kernel_rfl) (by kernel_rfl) ?_
    repeat' (refine IsX ?_; first | (refine JX_nil ?_; refine At_np ?_) | (refine JX_op rfl ?_; refine XsO ?_; first | (refine XsBin ?_; refine XB1 rfl rfl rfl rfl rfl ?_) | (refine XsLoad ?_; refine XL1 rfl rfl rfl rfl rfl ?_) | refine XV1 rfl rfl rfl rfl ?_))
    obtain ⟨m, hm⟩ := Int.eq_ofNat_of_zero_le hgb.2.2.2.2.1
    have hmN : m ≤ (unN w).toNat := by omega
    obtain ⟨o, ho, hko⟩ : ∃ o, (if n = ((i : Int) + 1).toNat then some (⟨bw, 0, none⟩ : Addr) else (some (⟨bw, 0, none⟩ : Addr)).map (·.add (((i : Int) + 1).toNat * 1))) = some ⟨bw, o, none⟩ ∧ (o = i + 1 ∨ (o = 0 ∧ m = 0)) := by
      by_cases h : n = ((i : Int) + 1).toNat
      · exact ⟨0, by rw [if_pos h], .inr ⟨rfl, by omega⟩⟩
      · refine ⟨i + 1, ?_, .inl rfl⟩
        rw [if_neg h, Option.map_some, addr_add]
        congr 2; omega
    refine JX_val rfl rfl (OV_slice (m := (i : Int) + 1) (n := (i : Int) + 1 + unP w) rfl rfl rfl rfl rfl rfl rfl (by omega) (by omega) (by omega) ho) rfl rfl ?_
    rw [show ((i : Int) + 1 + unP w).toNat - ((i : Int) + 1).toNat = m by omega]
    repeat' (refine IsX ?_; first | (refine JX_nil ?_; refine At_np ?_) | (refine JX_op rfl ?_; refine XsO ?_; first | (refine XsBin ?_; refine XB1 rfl rfl rfl rfl rfl ?_) | (refine XsLoad ?_; refine XL1 rfl rfl rfl rfl rfl ?_) | refine XV1 rfl rfl rfl rfl ?_))
    refine JX_l rfl rfl (OL_call [2, 2, 2] rfl rfl rfl (ContainsFunc_spec o m _ h (by omega) (by omega)) rfl) rfl rfl ?_
    rintro _ _ ⟨_, ⟨t, ht, rfl, rfl⟩, rfl⟩
    repeat' (refine IsX ?_; first | (refine JX_nil ?_; refine At_np ?_) | (refine JX_op rfl ?_; refine XsO ?_; first | (refine XsBin ?_; refine XB1 rfl rfl rfl rfl rfl ?_) | (refine XsLoad ?_; refine XL1 rfl rfl rfl rfl rfl ?_) | refine XV1 rfl rfl rfl rfl ?_))
    have hobj : t = false ↔ objOk ws st i w := by
      constructor
      · rintro rfl j hj
        cases hl : leadsB ws st (ws.getD (i + 1 + j) 0) with
        | true => rfl
        | false => exact absurd (ht.2 ⟨j, by omega, by rcases hko with e | e; (rw [e]; exact hl); omega⟩) (by decide)
      · intro ho'
        cases t with
        | false => rfl
        | true =>
          obtain ⟨j, h1, h2⟩ := ht.1 rfl
          rcases hko with e | e
          · rw [e, ho' j (by omega)] at h2; cases h2
          · omega
    cases t with
    | false =>
      repeat' (first | (refine IsO ?_; first | refine JO_nil ?_ | (refine IsLoad ?_; refine L1 rfl rfl rfl rfl ?_) | (refine IsStore ?_; refine S1 rfl rfl rfl rfl rfl rfl rfl (fun _ => ?_)) | (refine IsBox ?_; refine N1 rfl rfl rfl rfl (fun _ => ?_)) | (refine IsAlloc ?_; refine N2 rfl rfl rfl rfl (fun _ => ?_)) | refine V1 rfl rfl rfl ?_) | (refine IsAt ?_; first | (with_reducible first | refine T1 ?_ | refine T3 ?_ | refine T4 ?_) | ((with_reducible show At _ (PBlock _ _ (Exit.exit _)) _ _); refine At_block_hit ?_)) | (refine IsJ ?_; first | refine J_seq ?_ | refine J_region ?_ | refine J_block ?_ | refine J_skip ?_ | refine J_ret ?_ | refine J_exit ?_ | (refine IsCond ?_; first | refine J_cond_t rfl ?_ | refine J_cond_f rfl ?_)))
      refine At_roundEnd (.inl ⟨rfl, rfl⟩) hrec P3 (l' := heapL p bw bs n ws T st ++ Y false) (fun H hl => (hl.perm (picks_perm (is := [1, 1, 1, 0, 1, 1, 1]) rfl)).left) (.inl ⟨rfl, false, ⟨rfl, fun q x hq hqs hx => ?_⟩, rfl⟩)
      by_cases e : q = i
      · subst e
        rw [hw] at hx; injection hx with hx; subst hx
        exact hobj.1 rfl
      · rcases h.apart hs hw hqs e with c | c
        · exact hI q x c hqs hx
        · omega
    | true =>
      repeat' (first | (refine IsO ?_; first | refine JO_nil ?_ | (refine IsLoad ?_; refine L1 rfl rfl rfl rfl ?_) | (refine IsStore ?_; refine S1 rfl rfl rfl rfl rfl rfl rfl (fun _ => ?_)) | (refine IsBox ?_; refine N1 rfl rfl rfl rfl (fun _ => ?_)) | (refine IsAlloc ?_; refine N2 rfl rfl rfl rfl (fun _ => ?_)) | refine V1 rfl rfl rfl ?_) | (refine IsAt ?_; first | (with_reducible first | refine T1 ?_ | refine T3 ?_ | refine T4 ?_) | ((with_reducible show At _ (PBlock _ _ (Exit.exit _)) _ _); refine At_block_hit ?_)) | (refine IsJ ?_; first | refine J_seq ?_ | refine J_region ?_ | refine J_block ?_ | refine J_skip ?_ | refine J_ret ?_ | refine J_exit ?_ | (refine IsCond ?_; first | refine J_cond_t rfl ?_ | refine J_cond_f rfl ?_)))
      refine At_roundEnd (.inr (.inl ⟨rfl, rfl⟩)) hrec P4 (l' := heapL p bw bs n ws T st ++ Y true) (fun H hl => (hl.perm (picks_perm (is := [2, 2, 2, 0, 2, 0, 1]) rfl)).left) (.inr ⟨rfl, true, ⟨rfl, i, w, hs, hw, fun e => by have := hobj.2 e; cases this⟩, rfl⟩)
  refine ⟨_, [], _, (fun H hl => ?_), walkGen (bh := bh) (.func (.yield k) #[] #[]) Y Inv Stop h hy false ⟨rfl, fun q w hq => absurd hq (Nat.not_lt_zero _)⟩, ?_⟩
  · have h2 := hl.perm (picks_perm (is := [2, 4, 4, 4, 0, 0, 0, 0]) rfl)
    exact h2
  rintro v l1 ⟨s, hs, rfl, rfl⟩
  rcases hs with ⟨rfl, hI⟩ | ⟨rfl, q, w, hq, hw, hbad⟩
  · refine ⟨.ready, none, pt d (.deferred (some [])) :: blk b2 [.int .i64 0] 37 :: heapL p bw bs n ws T st, by decide, fun H hl => ?_, fun _ => ?_, fun c hc => by cases hc⟩
    · have h2 := hl.perm (picks_perm (is := [4, 4, 4, 1, 1, 1]) rfl)
      exact h2.left
    · refine At_block_normal ?_
      rw [PThen_D (D' := [⟨.collected d, #[]⟩])]
      refine At_then_normal ?_
      repeat' (first | (refine IsO ?_; first | refine JO_nil ?_ | (refine IsLoad ?_; refine L1 rfl rfl rfl rfl ?_) | (refine IsStore ?_; refine S1 rfl rfl rfl rfl rfl rfl rfl (fun _ => ?_)) | (refine IsBox ?_; refine N1 rfl rfl rfl rfl (fun _ => ?_)) | (refine IsAlloc ?_; refine N2 rfl rfl rfl rfl (fun _ => ?_)) | refine V1 rfl rfl rfl ?_) | (refine IsAt ?_; first | (with_reducible first | refine T1 ?_ | refine T3 ?_ | refine T4 ?_) | ((with_reducible show At _ (PBlock _ _ (Exit.exit _)) _ _); refine At_block_hit ?_)) | (refine IsJ ?_; first | refine J_seq ?_ | refine J_region ?_ | refine J_block ?_ | refine J_skip ?_ | refine J_ret ?_ | refine J_exit ?_ | (refine IsCond ?_; first | refine J_cond_t rfl ?_ | refine J_cond_f rfl ?_)))
      exact At_retM rfl P1 (.cell rfl rfl (by repeat (first | exact .head _ | refine .tail _ ?_)) rfl .nil) rfl (fun H hl => hl.tail) ⟨true, ⟨fun _ i w hi hw => hI i w (h.lt hi) hi hw, fun _ => rfl⟩, rfl, rfl⟩
  · refine ⟨.done, some .ret, pt d (.deferred (some [])) :: blk b2 [.int .i64 5] 37 :: heapL p bw bs n ws T st, by decide, fun H hl => ?_, fun hc => (by cases hc), fun c hc => ?_⟩
    · have h2 := hl.perm (picks_perm (is := [4, 4, 4, 1, 1, 1]) rfl)
      exact h2.left
    · injection hc with hc
      subst hc
      repeat' (first | (refine IsO ?_; first | refine JO_nil ?_ | (refine IsLoad ?_; refine L1 rfl rfl rfl rfl ?_) | (refine IsStore ?_; refine S1 rfl rfl rfl rfl rfl rfl rfl (fun _ => ?_)) | (refine IsBox ?_; refine N1 rfl rfl rfl rfl (fun _ => ?_)) | (refine IsAlloc ?_; refine N2 rfl rfl rfl rfl (fun _ => ?_)) | refine V1 rfl rfl rfl ?_) | (refine IsAt ?_; first | (with_reducible first | refine T1 ?_ | refine T3 ?_ | refine T4 ?_) | ((with_reducible show At _ (PBlock _ _ (Exit.exit _)) _ _); refine At_block_hit ?_)) | (refine IsJ ?_; first | refine J_seq ?_ | refine J_region ?_ | refine J_block ?_ | refine J_skip ?_ | refine J_ret ?_ | refine J_exit ?_ | (refine IsCond ?_; first | refine J_cond_t rfl ?_ | refine J_cond_f rfl ?_)))
      exact At_retM rfl P0 (.cell rfl rfl (by repeat (first | exact .head _ | refine .tail _ ?_)) rfl .nil) rfl (fun H hl => hl.tail) ⟨false, ⟨fun e => absurd e (by decide), fun e => absurd (fun j hj => e q w hq hw j hj) hbad⟩, rfl, rfl⟩
end ops
end Go.Proofs.Ytahfnbpbdnmggaa
/-
  Our own: the document's heaps (besomref01): objects that a list holds, what they own; Find, Top, Leads.
-/
set_option linter.unusedVariables false
set_option linter.unusedSimpArgs false
namespace Go.Proofs.Ytahfnbpbdnmggaa
open Go.Sep
/-- An object of the document's: its address, its kind and how many references, its words, and where they lie. -/
structure RO where
  i : Nat
  k : Int
  p : Int
  ws : List Int
  wa : Option Addr
  wc : Nat
abbrev cellsO (o : RO) : List Value := [.int .i64 o.i, .int .i64 o.k, .int .i64 o.ws.length, .int .i64 o.p, .slice o.wa o.ws.length o.wc]
abbrev rowO (o : RO) : HP := rowz 3 1 o.wa o.ws.length o.wc (intsV o.ws)
def RW (os : List RO) : HP := big (os.map rowO)
abbrev objsZ (a : Option Addr) (cap : Nat) (os : List RO) : HP := rowz 47 5 a os.length cap (os.flatMap cellsO)
abbrev refL (a : Option Addr) (cap : Nat) (os : List RO) : List HP := [objsZ a cap os, RW os]
abbrev refV (size : Int) (a : Option Addr) (n cap : Nat) : Value := .agg #[.int .i64 size, .slice a n cap]
def okW (os : List RO) : Prop := ∀ o ∈ os, o.wa = none → o.ws.length = 0 ∧ o.wc = 0
theorem one_star {p : HP} {h H : PH} (s : Sub h H) (k : p h) : Stars [p] H := ⟨h, fun _ => none, fun _ => .inr rfl, s, (fun _ _ e => by cases e), k, trivial⟩
theorem rowz_none {T sz m cap : Nat} {cs : List Value} {h : PH} (k : rowz T sz none m cap cs h) : m = 0 ∧ cap = 0 := by
  rcases k with ⟨h1, h2, _⟩ | ⟨_, h1, h2, _⟩ | ⟨b, pre, sp, e, _⟩
  · exact ⟨h1, h2⟩
  · exact ⟨h1, h2⟩
  · cases e
theorem RW_ok {W w : World} {l : List HP} {os : List RO} (hs : Sat W l w) (hm : RW os ∈ l) : okW os := by
  intro o ho hn
  obtain ⟨h1, s1, k1⟩ := hs.stars.mem hm
  obtain ⟨h2, s2, k2⟩ := Stars.mem (l := os.map rowO) k1 (List.mem_map_of_mem (f := rowO) ho)
  have k3 : rowz 3 1 o.wa o.ws.length o.wc (intsV o.ws) h2 := k2
  rw [hn] at k3
  exact rowz_none k3
theorem RW.reads {os : List RO} {o : RO} (ho : o ∈ os) (ok : okW os) : Reads (RW os) 1 o.ws.length o.wa o.wc (intsV o.ws) := by
  have hr : Reads (rowO o) 1 o.ws.length o.wa o.wc (intsV o.ws) := Reads.rowz (by simp) (ok o ho)
  refine ⟨by simp, ok o ho, fun W l w hs hm i hi => ?_⟩
  obtain ⟨h1, s1, k1⟩ := hs.stars.mem hm
  obtain ⟨h2, s2, k2⟩ := Stars.mem (l := os.map rowO) k1 (List.mem_map_of_mem (f := rowO) ho)
  exact hr.cell W [rowO o] w ⟨hs.os, hs.tape, hs.output, one_star (s2.trans s1) k2⟩ (.head _) i hi
/-- New words' rows in, those that nothing holds any more out. -/
theorem RW.to {news os os' dr : List RO} {l : List HP} {H : PH} (h : (news ++ os).Perm (os' ++ dr)) (hs : Stars (news.map rowO ++ RW os :: l) H) : Stars (RW os' :: l) H := by
  have h1 : Stars (big (os.map rowO) :: (news.map rowO ++ l)) H := hs.perm List.perm_middle
  have h2 := h1.open
  have h3 : Stars (os'.map rowO ++ (dr.map rowO ++ l)) H := by
    refine h2.perm ?_
    rw [← List.append_assoc, ← List.append_assoc, ← List.map_append, ← List.map_append]
    exact ((List.perm_append_comm.trans h).map rowO).append_right _
  obtain ⟨a, b, ap, s1, s2, p1, p2⟩ := h3.app
  exact (Stars.unapp ap s1 s2 p1 p2.right).shut
theorem objs_get {os : List RO} {j : Nat} {o : RO} (h : os[j]? = some o) {r : Nat} (hr : r < 5) : (os.flatMap cellsO)[j * 5 + r]? = (cellsO o)[r]? := flat_get (f := cellsO) (fun _ _ => rfl) h hr
theorem objs_take {os : List RO} {j : Nat} {o : RO} (h : os[j]? = some o) : takeL (os.flatMap cellsO) (j * 5) 5 = some (cellsO o) := flat_take (f := cellsO) (fun _ _ => rfl) h
theorem objs_len {os : List RO} : (os.flatMap cellsO).length = os.length * 5 := flat_len (f := cellsO) (fun _ _ => rfl)
/-- Objects that lie in words one behind the other, from i up to T. -/
def Ch (ws : List Int) : Nat → List RO → Nat → Prop
  | i, [], T => i = T
  | i, o :: r, T => o.i = i ∧ goodB o.k o.ws.length o.p = true ∧ ws[i]? = some (packI o.k o.ws.length o.p) ∧ (∀ j : Nat, j < o.ws.length → ws[i + 1 + j]? = o.ws[j]?) ∧ Ch ws (i + 1 + o.ws.length) r T
theorem Ch.le {ws : List Int} : ∀ {os : List RO} {i T : Nat}, Ch ws i os T → i ≤ T
  | [], i, T, h => Nat.le_of_eq h
  | o :: r, i, T, h => by have := Ch.le h.2.2.2.2; omega
theorem Ch.len {ws : List Int} : ∀ {os : List RO} {i T : Nat}, Ch ws i os T → i + os.length ≤ T
  | [], i, T, h => Nat.le_of_eq h
  | o :: r, i, T, h => by have := Ch.len h.2.2.2.2; simp; omega
theorem Ch.app {ws : List Int} {b : List RO} {T : Nat} : ∀ {a : List RO} {i : Nat}, Ch ws i (a ++ b) T ↔ ∃ m, Ch ws i a m ∧ Ch ws m b T
  | [], i => ⟨fun h => ⟨i, rfl, h⟩, fun ⟨m, h1, h2⟩ => by cases h1; exact h2⟩
  | o :: r, i => by
    constructor
    · rintro ⟨h1, h2, h3, h4, h5⟩
      obtain ⟨m, k1, k2⟩ := Ch.app.1 h5
      exact ⟨m, ⟨h1, h2, h3, h4, k1⟩, k2⟩
    · rintro ⟨m, ⟨h1, h2, h3, h4, h5⟩, k⟩
      exact ⟨h1, h2, h3, h4, Ch.app.2 ⟨m, h5, k⟩⟩
theorem Ch.keep {ws ws' : List Int} : ∀ {os : List RO} {i T : Nat}, Ch ws i os T → (∀ j, i ≤ j → j < T → ws'[j]? = ws[j]?) → Ch ws' i os T
  | [], i, T, h, _ => h
  | o :: r, i, T, ⟨h1, h2, h3, h4, h5⟩, k => by
    have := h5.le
    exact ⟨h1, h2, by rw [k i (Nat.le_refl _) (by omega)]; exact h3, fun j hj => by rw [k _ (by omega) (by omega)]; exact h4 j hj, h5.keep fun j a b => k j (by omega) b⟩
/-- The j-th of them. -/
theorem Ch.at {ws : List Int} {os : List RO} {i T j : Nat} {o : RO} (h : Ch ws i os T) (hj : os[j]? = some o) : Ch ws i (os.take j) o.i ∧ Ch ws o.i (o :: os.drop (j + 1)) T := by
  have hlt : j < os.length := (List.getElem?_eq_some_iff.1 hj).1
  have e : os = os.take j ++ o :: os.drop (j + 1) := by
    conv => lhs; rw [← List.take_append_drop j os]
    rw [List.drop_eq_getElem_cons hlt]
    rw [List.getElem?_eq_getElem hlt] at hj
    injection hj with hj
    rw [hj]
  rw [e] at h
  obtain ⟨m, h1, h2⟩ := Ch.app.1 h
  obtain rfl := h2.1
  exact ⟨h1, h2⟩
theorem Ch.end_ {ws : List Int} {os : List RO} {i T j : Nat} {o : RO} (h : Ch ws i os T) (hj : os[j]? = some o) : Ch ws i (os.take (j + 1)) (o.i + 1 + o.ws.length) := by
  obtain ⟨h1, h2⟩ := h.at hj
  have hlt : j < os.length := (List.getElem?_eq_some_iff.1 hj).1
  rw [List.getElem?_eq_getElem hlt] at hj
  injection hj with hj
  rw [List.take_add_one, List.getElem?_eq_getElem hlt, hj, Option.toList_some]
  exact Ch.app.2 ⟨o.i, h1, rfl, h2.2.1, h2.2.2.1, h2.2.2.2.1, rfl⟩
def findR (os : List RO) (x r : Int) : Prop := (∃ (j : Nat) (o : RO), r = j ∧ os[j]? = some o ∧ (o.i : Int) = x) ∨ (r = -1 ∧ ∀ o ∈ os, (o.i : Int) ≠ x)
/-- Where the q-th of them begins. -/
def posAt (os : List RO) (T q : Nat) : Nat := match os[q]? with | some o => o.i | none => T
theorem Ch.pos0 {ws : List Int} {os : List RO} {i T : Nat} (h : Ch ws i os T) : posAt os T 0 = i := by
  cases os with
  | nil => exact h.symm
  | cons o r => exact h.1
theorem posAt_of {os : List RO} {T q : Nat} {o : RO} (h : os[q]? = some o) : posAt os T q = o.i := by unfold posAt; rw [h]
theorem posAt_end {os : List RO} {T : Nat} : posAt os T os.length = T := by unfold posAt; rw [List.getElem?_eq_none (Nat.le_refl _)]
theorem Ch.pos_le {ws : List Int} {os : List RO} {i T : Nat} (h : Ch ws i os T) (q : Nat) : posAt os T q ≤ T := by
  unfold posAt
  split
  · rename_i o ho
    have := (h.at ho).2.le
    exact this
  · exact Nat.le_refl _
theorem Ch.pos {ws : List Int} {os : List RO} {i T q : Nat} {o : RO} (h : Ch ws i os T) (hq : os[q]? = some o) : posAt os T (q + 1) = o.i + 1 + o.ws.length := by
  have h2 := (h.at hq).2.2.2.2.2.pos0
  rw [← h2]
  unfold posAt
  rw [List.getElem?_drop]
section starts
variable {n T : Nat} {ws : List Int} {st : List Bool}
theorem Ch.start (h : HT n T ws st) : ∀ {os : List RO} {i : Nat}, Ch ws i os T → (i = T ∨ st[i]? = some true) → ∀ o ∈ os, st[o.i]? = some true
  | [], i, _, _ => fun o ho => by cases ho
  | o :: r, i, ⟨h1, h2, h3, h4, h5⟩, hi => by
    have hle := h5.le
    have hs : st[i]? = some true := by
      rcases hi with e | e
      · omega
      · exact e
    obtain ⟨w, b1, b2, b3, b4, b5⟩ := h.obj i hs
    rw [h3] at b1; injection b1 with b1; subst b1
    rw [(packI_un h2).2.2.2.1, Int.toNat_natCast] at b4
    intro o' ho
    rcases List.mem_cons.1 ho with rfl | ho
    · rw [h1]; exact hs
    · exact Ch.start h h5 b4 o' ho
theorem Ch.find (h : HT n T ws st) : ∀ {os : List RO} {i : Nat}, Ch ws i os T → (i = T ∨ st[i]? = some true) → ∀ q, i ≤ q → st[q]? = some true → ∃ o ∈ os, o.i = q
  | [], i, hc, _ => fun q hq hs => by
    have := h.lt hs
    have : i = T := hc
    omega
  | o :: r, i, ⟨h1, h2, h3, h4, h5⟩, hi => fun q hq hs => by
    have hle := h5.le
    have hsi : st[i]? = some true := by
      rcases hi with e | e
      · omega
      · exact e
    obtain ⟨w, b1, b2, b3, b4, b5⟩ := h.obj i hsi
    rw [h3] at b1; injection b1 with b1; subst b1
    rw [(packI_un h2).2.2.2.1, Int.toNat_natCast] at b4 b5
    by_cases e : q = i
    · exact ⟨o, .head _, by omega⟩
    · by_cases e2 : q < i + 1 + o.ws.length
      · exact absurd hs (b5 q (by omega) e2)
      · obtain ⟨o', ho', e'⟩ := Ch.find h h5 b4 q (by omega) hs
        exact ⟨o', .tail _ ho', e'⟩
theorem findR_some {os : List RO} {x : Int} {j : Nat} {o : RO} (h : HT n T ws st) (hc : Ch ws 0 os T) (hj : os[j]? = some o) : isObj st o.i ∧ ws[o.i]? = some (packI o.k o.ws.length o.p) ∧ goodB o.k o.ws.length o.p = true ∧ o.i + 1 + o.ws.length ≤ T ∧ ∀ q : Nat, q < o.ws.length → ws[o.i + 1 + q]? = o.ws[q]? := by
  have h2 := (hc.at hj).2
  exact ⟨⟨by omega, by rw [Int.toNat_natCast]; exact Ch.start h hc (h.zero.imp (fun e => e.symm) id) o (List.mem_of_getElem? hj)⟩, h2.2.2.1, h2.2.1, h2.2.2.2.2.le, h2.2.2.2.1⟩
theorem findR_none {os : List RO} {x : Int} (h : HT n T ws st) (hc : Ch ws 0 os T) (hx : ∀ o ∈ os, (o.i : Int) ≠ x) : ¬ isObj st x := by
  rintro ⟨h0, hs⟩
  obtain ⟨o, ho, e⟩ := Ch.find h hc (h.zero.imp (fun e => e.symm) id) _ (Nat.zero_le _) hs
  exact hx o ho (by omega)
end starts
section ops
variable {a : Option Addr} {cap : Nat} {os : List RO}
set_option maxHeartbeats 4000000 in
theorem Find_spec (size x : Int) (hb : os.length ≤ 65536) : Does Try.prog 45 [refV size a os.length cap, .int .i64 x] (refL a cap os)
    (fun v l => ∃ r : Int, findR os x r ∧ v = .int .i64 r ∧ l = refL a cap os) := by
  refine Does.of tiok Try.func45 (by kernel_rfl) rfl Try.ntmps45 rfl ?_
  intro W fr
  refine J_rowzf P0 ?_
  rintro ⟨hl, hn, hc⟩
  have hR : Reads (objsZ a cap os) 5 os.length a cap (os.flatMap cellsO) := Reads.rowz hl hn
  repeat' (first | (refine IsO ?_; first | refine JO_nil ?_ | (refine IsBin ?_; refine B1 rfl rfl rfl rfl ?_) | (refine IsLoad ?_; refine L1 rfl rfl rfl rfl ?_) | (refine IsBox ?_; refine N1 rfl rfl rfl rfl (fun _ => ?_)) | refine V1 rfl rfl rfl ?_) | (refine IsAt ?_; first | (with_reducible first | refine T1 ?_ | refine T2 ?_ | refine T3 ?_ | refine T4 ?_ | refine T5 ?_ | refine T6 ?_ | refine T7 ?_) | ((with_reducible show At _ (PBlock _ _ (Exit.exit _)) _ _); refine At_block_hit ?_)) | (refine IsJ ?_; first | refine J_seq ?_ | refine J_region ?_ | refine J_block ?_ | refine J_skip ?_ | refine J_ret ?_ | refine J_exit ?_ | (refine IsCond ?_; refine J_cb rfl (fun _ => ?_) (fun _ => ?_))))
  rename_i bx
  refine J_loop (α := Nat) (fun q => q ≤ os.length ∧ ∀ (j : Nat) (o : RO), j < q → os[j]? = some o → (o.i : Int) ≠ x)
    (fun q => [(1, .int .i64 x), (2, ptr bx 0), (8, .int .i64 os.length), (9, .int .i64 q)])
    (fun q => blk bx [.int .i64 size, .slice a os.length cap] 33 :: refL a cap os) (fun q => os.length - q) 0 ⟨Nat.zero_le _, fun j o hj => absurd hj (Nat.not_lt_zero _)⟩ (by repeat (first | exact True.intro | refine And.intro rfl ?_)) (fun H hl => hl) ?_
  rintro q ⟨hq, hI⟩
  repeat' (first | (refine IsO ?_; first | refine JO_nil ?_ | (refine IsBin ?_; refine B1 rfl rfl rfl rfl ?_) | (refine IsLoad ?_; refine L1 rfl rfl rfl rfl ?_) | (refine IsBox ?_; refine N1 rfl rfl rfl rfl (fun _ => ?_)) | refine V1 rfl rfl rfl ?_) | (refine IsAt ?_; first | (with_reducible first | refine T1 ?_ | refine T2 ?_ | refine T3 ?_ | refine T4 ?_ | refine T5 ?_ | refine T6 ?_ | refine T7 ?_) | ((with_reducible show At _ (PBlock _ _ (Exit.exit _)) _ _); refine At_block_hit ?_)) | (refine IsJ ?_; first | refine J_seq ?_ | refine J_region ?_ | refine J_block ?_ | refine J_skip ?_ | refine J_ret ?_ | refine J_exit ?_ | (refine IsCond ?_; refine J_cb rfl (fun _ => ?_) (fun _ => ?_))))
  · rename_i hlt
    have hlt' : q < os.length := by omega
    obtain ⟨o, ho⟩ : ∃ o, os[q]? = some o := ⟨os[q], List.getElem?_eq_getElem _⟩
    refine JO_fact _ (fun w hs => hR.some (by omega) hs (.tail _ (.head _))) ?_
    rintro ⟨b, of, rfl⟩
    refine JO_val (OV_idx (off := of + q * 5) rfl rfl rfl rfl (by omega) (by omega) (by simp)) rfl rfl ?_
    repeat' (first | (refine IsO ?_; first | refine JO_nil ?_ | (refine IsBin ?_; refine B1 rfl rfl rfl rfl ?_) | (refine IsLoad ?_; refine L1 rfl rfl rfl rfl ?_) | (refine IsBox ?_; refine N1 rfl rfl rfl rfl (fun _ => ?_)) | refine V1 rfl rfl rfl ?_) | (refine IsAt ?_; first | (with_reducible first | refine T1 ?_ | refine T2 ?_ | refine T3 ?_ | refine T4 ?_ | refine T5 ?_ | refine T6 ?_ | refine T7 ?_) | ((with_reducible show At _ (PBlock _ _ (Exit.exit _)) _ _); refine At_block_hit ?_)) | (refine IsJ ?_; first | refine J_seq ?_ | refine J_region ?_ | refine J_block ?_ | refine J_skip ?_ | refine J_ret ?_ | refine J_exit ?_ | (refine IsCond ?_; refine J_cb rfl (fun _ => ?_) (fun _ => ?_))))
    refine JO_q (OQ_read (i := q * 5 + 0) (v := .int .i64 o.i) hR (.tail _ (.head _)) rfl rfl (by omega) (by rw [objs_get ho (by omega)]; rfl)) rfl rfl ?_
    repeat' (first | (refine IsO ?_; first | refine JO_nil ?_ | (refine IsBin ?_; refine B1 rfl rfl rfl rfl ?_) | (refine IsLoad ?_; refine L1 rfl rfl rfl rfl ?_) | (refine IsBox ?_; refine N1 rfl rfl rfl rfl (fun _ => ?_)) | refine V1 rfl rfl rfl ?_) | (refine IsAt ?_; first | (with_reducible first | refine T1 ?_ | refine T2 ?_ | refine T3 ?_ | refine T4 ?_ | refine T5 ?_ | refine T6 ?_ | refine T7 ?_) | ((with_reducible show At _ (PBlock _ _ (Exit.exit _)) _ _); refine At_block_hit ?_)) | (refine IsJ ?_; first | refine J_seq ?_ | refine J_region ?_ | refine J_block ?_ | refine J_skip ?_ | refine J_ret ?_ | refine J_exit ?_ | (refine IsCond ?_; refine J_cb rfl (fun _ => ?_) (fun _ => ?_))))
    · rename_i he
      exact At_ret rfl rfl (.tmp rfl .nil) rfl (is := [1, 1]) rfl ⟨q, .inl ⟨q, o, rfl, ho, by omega⟩, rfl, rfl⟩
    · rename_i he
      refine At_round (q + 1) (by show os.length - (q + 1) < os.length - q; omega) ⟨by omega, fun j o' hj hj2 => ?_⟩ (by repeat (first | exact True.intro | refine And.intro rfl ?_)) (fun H hl => hl)
      by_cases e : j = q
      · subst e
        rw [ho] at hj2; injection hj2 with hj2; subst hj2
        omega
      · exact hI j o' (by omega) hj2
  · have hqq : q = os.length := by omega
    subst hqq
    refine At_ret rfl rfl (.tmp rfl .nil) rfl (is := [1, 1]) rfl ⟨-1, .inr ⟨rfl, fun o ho => ?_⟩, rfl, rfl⟩
    obtain ⟨j, hj⟩ := List.getElem?_of_mem ho
    exact hI j o (List.getElem?_eq_some_iff.1 hj).1 hj
set_option maxHeartbeats 4000000 in
theorem Top_spec {ws : List Int} {T : Nat} (size : Int) (h : Ch ws 0 os T) (hT : T ≤ 65536) : Does Try.prog 58 [refV size a os.length cap] (refL a cap os)
    (fun v l => v = .int .i64 T ∧ l = refL a cap os) := by
  have hlen := h.len
  refine Does.of tiok Try.func58 (by kernel_rfl) rfl Try.ntmps58 rfl ?_
  intro W fr
  refine J_rowzf P0 ?_
  rintro ⟨hl, hn, hc⟩
  have hR : Reads (objsZ a cap os) 5 os.length a cap (os.flatMap cellsO) := Reads.rowz hl hn
  repeat' (first | (refine IsO ?_; first | refine JO_nil ?_ | (refine IsBin ?_; refine B1 rfl rfl rfl rfl ?_) | (refine IsLoad ?_; refine L1 rfl rfl rfl rfl ?_) | (refine IsBox ?_; refine N1 rfl rfl rfl rfl (fun _ => ?_)) | refine V1 rfl rfl rfl ?_) | (refine IsAt ?_; first | (with_reducible first | refine T1 ?_ | refine T3 ?_ | refine T5 ?_ | refine T6 ?_) | ((with_reducible show At _ (PBlock _ _ (Exit.exit _)) _ _); refine At_block_hit ?_)) | (refine IsJ ?_; first | refine J_seq ?_ | refine J_region ?_ | refine J_block ?_ | refine J_skip ?_ | refine J_ret ?_ | refine J_exit ?_ | (refine IsCond ?_; refine J_cb rfl (fun _ => ?_) (fun _ => ?_))))
  rename_i bx
  refine J_loop (α := Nat) (fun q => q ≤ os.length)
    (fun q => [(1, ptr bx 0), (3, .int .i64 (posAt os T q)), (7, .int .i64 os.length), (8, .int .i64 q)])
    (fun q => blk bx [.int .i64 size, .slice a os.length cap] 33 :: refL a cap os) (fun q => os.length - q) 0 (Nat.zero_le _) ?_ (fun H hl => hl) ?_
  · rw [h.pos0]; exact (by repeat (first | exact True.intro | refine And.intro rfl ?_))
  intro q hq
  have hpb := h.pos_le q
  repeat' (first | (refine IsO ?_; first | refine JO_nil ?_ | (refine IsBin ?_; refine B1 rfl rfl rfl rfl ?_) | (refine IsLoad ?_; refine L1 rfl rfl rfl rfl ?_) | (refine IsBox ?_; refine N1 rfl rfl rfl rfl (fun _ => ?_)) | refine V1 rfl rfl rfl ?_) | (refine IsAt ?_; first | (with_reducible first | refine T1 ?_ | refine T3 ?_ | refine T5 ?_ | refine T6 ?_) | ((with_reducible show At _ (PBlock _ _ (Exit.exit _)) _ _); refine At_block_hit ?_)) | (refine IsJ ?_; first | refine J_seq ?_ | refine J_region ?_ | refine J_block ?_ | refine J_skip ?_ | refine J_ret ?_ | refine J_exit ?_ | (refine IsCond ?_; refine J_cb rfl (fun _ => ?_) (fun _ => ?_))))
  · rename_i hlt
    have hlt' : q < os.length := by omega
    obtain ⟨o, ho⟩ : ∃ o, os[q]? = some o := ⟨os[q], List.getElem?_eq_getElem _⟩
    have hp := posAt_of (T := T) ho
    have hp2 := h.pos ho
    have hle : o.i + 1 + o.ws.length ≤ T := (h.at ho).2.2.2.2.2.le
    refine JO_fact _ (fun w hs => hR.some (by omega) hs (.tail _ (.head _))) ?_
    rintro ⟨b, of, rfl⟩
    refine JO_val (OV_idx (off := of + q * 5) rfl rfl rfl rfl (by omega) (by omega) (by simp)) rfl rfl ?_
    repeat' (first | (refine IsO ?_; first | refine JO_nil ?_ | (refine IsBin ?_; refine B1 rfl rfl rfl rfl ?_) | (refine IsLoad ?_; refine L1 rfl rfl rfl rfl ?_) | (refine IsBox ?_; refine N1 rfl rfl rfl rfl (fun _ => ?_)) | refine V1 rfl rfl rfl ?_) | (refine IsAt ?_; first | (with_reducible first | refine T1 ?_ | refine T3 ?_ | refine T5 ?_ | refine T6 ?_) | ((with_reducible show At _ (PBlock _ _ (Exit.exit _)) _ _); refine At_block_hit ?_)) | (refine IsJ ?_; first | refine J_seq ?_ | refine J_region ?_ | refine J_block ?_ | refine J_skip ?_ | refine J_ret ?_ | refine J_exit ?_ | (refine IsCond ?_; refine J_cb rfl (fun _ => ?_) (fun _ => ?_))))
    refine JO_q (OQ_read (i := q * 5 + 2) (v := .int .i64 o.ws.length) hR (.tail _ (.head _)) rfl rfl (by omega) (by rw [objs_get ho (by omega)]; rfl)) rfl rfl ?_
    repeat' (first | (refine IsO ?_; first | refine JO_nil ?_ | (refine IsBin ?_; refine B1 rfl rfl rfl rfl ?_) | (refine IsLoad ?_; refine L1 rfl rfl rfl rfl ?_) | (refine IsBox ?_; refine N1 rfl rfl rfl rfl (fun _ => ?_)) | refine V1 rfl rfl rfl ?_) | (refine IsAt ?_; first | (with_reducible first | refine T1 ?_ | refine T3 ?_ | refine T5 ?_ | refine T6 ?_) | ((with_reducible show At _ (PBlock _ _ (Exit.exit _)) _ _); refine At_block_hit ?_)) | (refine IsJ ?_; first | refine J_seq ?_ | refine J_region ?_ | refine J_block ?_ | refine J_skip ?_ | refine J_ret ?_ | refine J_exit ?_ | (refine IsCond ?_; refine J_cb rfl (fun _ => ?_) (fun _ => ?_))))
    refine At_round (q + 1) (by show os.length - (q + 1) < os.length - q; omega) (show q + 1 ≤ os.length by omega) ?_ (fun H hl => hl)
    rw [hp2, show ((o.i + 1 + o.ws.length : Nat) : Int) = (posAt os T q : Int) + 1 + o.ws.length by omega]
    exact (by repeat (first | exact True.intro | refine And.intro rfl ?_))
  · have hqq : q = os.length := by omega
    subst hqq
    exact At_ret rfl rfl (.tmp rfl .nil) rfl (is := [1, 1]) rfl ⟨by rw [posAt_end]; rfl, rfl⟩
set_option maxHeartbeats 4000000 in
theorem Leads_spec {n T : Nat} {ws : List Int} {st : List Bool} (size x : Int) (h : HT n T ws st) (hc : Ch ws 0 os T) (hx : In64 x) : Does Try.prog 61 [refV size a os.length cap, .int .i64 x] (refL a cap os)
    (fun v l => v = .bool (leadsB ws st x) ∧ l = refL a cap os) := by
  have hlen := hc.len
  have htn := h.tn
  have hnb := h.nb
  obtain ⟨hx1, hx2⟩ := hx
  refine Does.of tiok Try.func61 (by kernel_rfl) rfl Try.ntmps61 rfl ?_
  intro W fr
  refine J_rowzf P0 ?_
  rintro ⟨hl, hn, hcc⟩
  have hR : Reads (objsZ a cap os) 5 os.length a cap (os.flatMap cellsO) := Reads.rowz hl hn
  repeat' (first | (refine IsO ?_; first | refine JO_nil ?_ | (refine IsG ?_; refine G1 rfl rfl ?_) | (refine IsMove ?_; first | refine M1 rfl rfl rfl ?_ | refine M2 rfl rfl rfl ?_) | (refine IsBin ?_; refine B2 rfl rfl rfl rfl ?_) | (refine IsLoad ?_; first | refine L1 rfl rfl rfl rfl ?_ | refine L2 rfl rfl rfl rfl rfl ?_) | (refine IsBox ?_; refine N1 rfl rfl rfl rfl (fun _ => ?_)) | refine V1 rfl rfl rfl ?_) | (refine IsAt ?_; (with_reducible first | refine T1 ?_ | refine T2 ?_)) | (refine IsJ ?_; first | refine J_seq ?_ | refine J_region ?_ | refine J_skip ?_ | refine J_ret ?_ | (refine IsCond ?_; refine J_cb rfl (fun _ => ?_) (fun _ => ?_))))
  · rename_i bx hle
    refine At_ret rfl rfl (.tmp rfl .nil) rfl (is := [1, 1]) rfl ⟨?_, rfl⟩
    refine congrArg Value.bool ?_
    unfold leadsB
    exact decide_eq_decide.2 (by omega)
  · rename_i bx hle
    refine JO_l (OL_call [1, 1] rfl rfl rfl (Find_spec _ _ (by omega)) rfl) rfl rfl ?_; rintro _ _ ⟨_, ⟨r, hr, rfl, rfl⟩, rfl⟩
    rcases hr with ⟨j, o, rfl, hj, hi⟩ | ⟨rfl, hno⟩
    · obtain ⟨⟨_, k1⟩, k2, k3, k4, k5⟩ := findR_some (x := x) h hc hj
      have hjl : j < os.length := (List.getElem?_eq_some_iff.1 hj).1
      repeat' (first | (refine IsO ?_; first | refine JO_nil ?_ | (refine IsG ?_; refine G1 rfl rfl ?_) | (refine IsMove ?_; first | refine M1 rfl rfl rfl ?_ | refine M2 rfl rfl rfl ?_) | (refine IsBin ?_; refine B2 rfl rfl rfl rfl ?_) | (refine IsLoad ?_; first | refine L1 rfl rfl rfl rfl ?_ | refine L2 rfl rfl rfl rfl rfl ?_) | (refine IsBox ?_; refine N1 rfl rfl rfl rfl (fun _ => ?_)) | refine V1 rfl rfl rfl ?_) | (refine IsAt ?_; (with_reducible first | refine T1 ?_ | refine T2 ?_)) | (refine IsJ ?_; first | refine J_seq ?_ | refine J_region ?_ | refine J_skip ?_ | refine J_ret ?_ | (refine IsCond ?_; refine J_cb rfl (fun _ => ?_) (fun _ => ?_))))
      refine JO_fact _ (fun w hs => hR.some (by omega) hs (by repeat (first | exact .head _ | refine .tail _ ?_))) ?_
      rintro ⟨b, of, rfl⟩
      refine JO_val (OV_idx (off := of + j * 5) rfl rfl rfl rfl (by omega) (by omega) (by simp)) rfl rfl ?_
      repeat' (first | (refine IsO ?_; first | refine JO_nil ?_ | (refine IsG ?_; refine G1 rfl rfl ?_) | (refine IsMove ?_; first | refine M1 rfl rfl rfl ?_ | refine M2 rfl rfl rfl ?_) | (refine IsBin ?_; refine B2 rfl rfl rfl rfl ?_) | (refine IsLoad ?_; first | refine L1 rfl rfl rfl rfl ?_ | refine L2 rfl rfl rfl rfl rfl ?_) | (refine IsBox ?_; refine N1 rfl rfl rfl rfl (fun _ => ?_)) | refine V1 rfl rfl rfl ?_) | (refine IsAt ?_; (with_reducible first | refine T1 ?_ | refine T2 ?_)) | (refine IsJ ?_; first | refine J_seq ?_ | refine J_region ?_ | refine J_skip ?_ | refine J_ret ?_ | (refine IsCond ?_; refine J_cb rfl (fun _ => ?_) (fun _ => ?_))))
      refine JO_q (OQ_read (i := j * 5 + 1) (v := .int .i64 o.k) hR (by repeat (first | exact .head _ | refine .tail _ ?_)) rfl rfl (by omega) (by rw [objs_get hj (by omega)]; rfl)) rfl rfl ?_
      repeat' (first | (refine IsO ?_; first | refine JO_nil ?_ | (refine IsG ?_; refine G1 rfl rfl ?_) | (refine IsMove ?_; first | refine M1 rfl rfl rfl ?_ | refine M2 rfl rfl rfl ?_) | (refine IsBin ?_; refine B2 rfl rfl rfl rfl ?_) | (refine IsLoad ?_; first | refine L1 rfl rfl rfl rfl ?_ | refine L2 rfl rfl rfl rfl rfl ?_) | (refine IsBox ?_; refine N1 rfl rfl rfl rfl (fun _ => ?_)) | refine V1 rfl rfl rfl ?_) | (refine IsAt ?_; (with_reducible first | refine T1 ?_ | refine T2 ?_)) | (refine IsJ ?_; first | refine J_seq ?_ | refine J_region ?_ | refine J_skip ?_ | refine J_ret ?_ | (refine IsCond ?_; refine J_cb rfl (fun _ => ?_) (fun _ => ?_))))
      refine At_ret rfl rfl (.tmp rfl .nil) rfl (is := [0, 0]) rfl ⟨congrArg Value.bool ?_, rfl⟩
      unfold leadsB
      have e : (x - 1).toNat = o.i := by omega
      rw [e, getD_of k2, (packI_un k3).2.2.1]
      rw [Int.toNat_natCast] at k1
      simp only [k1]
      have e0 : ¬ x = 0 := by omega
      have e1 : 1 ≤ x := by omega
      simp [e0, e1]
    · have hno' := findR_none h hc hno
      repeat' (first | (refine IsO ?_; first | refine JO_nil ?_ | (refine IsG ?_; refine G1 rfl rfl ?_) | (refine IsMove ?_; first | refine M1 rfl rfl rfl ?_ | refine M2 rfl rfl rfl ?_) | (refine IsBin ?_; refine B2 rfl rfl rfl rfl ?_) | (refine IsLoad ?_; first | refine L1 rfl rfl rfl rfl ?_ | refine L2 rfl rfl rfl rfl rfl ?_) | (refine IsBox ?_; refine N1 rfl rfl rfl rfl (fun _ => ?_)) | refine V1 rfl rfl rfl ?_) | (refine IsAt ?_; (with_reducible first | refine T1 ?_ | refine T2 ?_)) | (refine IsJ ?_; first | refine J_seq ?_ | refine J_region ?_ | refine J_skip ?_ | refine J_ret ?_ | (refine IsCond ?_; refine J_cb rfl (fun _ => ?_) (fun _ => ?_))))
      refine At_ret rfl rfl (.tmp rfl .nil) rfl (is := [0, 0]) rfl ⟨congrArg Value.bool ?_, rfl⟩
      unfold leadsB
      refine (decide_eq_false ?_).symm
      rintro (e | ⟨e1, e2, _⟩)
      · omega
      · exact hno' ⟨by omega, e2⟩
end ops
end Go.Proofs.Ytahfnbpbdnmggaa
/-
  Our own: the document's heaps (besomref01): Words, Check.
-/
set_option linter.unusedVariables false
set_option linter.unusedSimpArgs false
namespace Go.Proofs.Ytahfnbpbdnmggaa
open Go.Sep
section ops
variable {a : Option Addr} {cap : Nat} {os : List RO}
theorem take_ints {ws : List Int} {i k : Nat} {xs : List Int} (hk : xs.length = k) (h : ∀ j : Nat, j < k → ws[i + j]? = xs[j]?) : intsV (ws.take i) ++ intsV xs = intsV (ws.take (i + k)) := by
  rw [← List.map_append]
  congr 1
  apply List.ext_getElem?
  intro j
  by_cases h1 : j < i
  · rw [List.getElem?_take_of_lt (by omega)]
    by_cases h2 : j < ws.length
    · rw [List.getElem?_append_left (by simp; omega), List.getElem?_take_of_lt h1]
    · by_cases h3 : k = 0
      · obtain rfl : xs = [] := List.eq_nil_of_length_eq_zero (by omega)
        rw [List.append_nil, List.getElem?_take_of_lt h1]
      · have := h 0 (by omega)
        rw [List.getElem?_eq_none (by omega), List.getElem?_eq_getElem (by omega)] at this
        cases this
  · by_cases h3 : k = 0
    · obtain rfl : xs = [] := List.eq_nil_of_length_eq_zero (by omega)
      rw [List.append_nil, h3, Nat.add_zero]
    · have hil : i + k ≤ ws.length := by
        have := h (k - 1) (by omega)
        rw [List.getElem?_eq_getElem (show k - 1 < xs.length by omega)] at this
        have := (List.getElem?_eq_some_iff.1 this).1
        omega
      rw [List.getElem?_append_right (by simp; omega), List.length_take, Nat.min_eq_left (by omega)]
      by_cases h4 : j < i + k
      · rw [List.getElem?_take_of_lt h4, ← h (j - i) (by omega), show i + (j - i) = j by omega]
      · rw [List.getElem?_eq_none (by omega), List.getElem?_eq_none (by simp; omega)]
theorem objs_head {os : List RO} {j : Nat} {o : RO} (h : os[j]? = some o) : takeL (os.flatMap cellsO) (j * 5 + 1) 3 = some [.int .i64 o.k, .int .i64 o.ws.length, .int .i64 o.p] := by
  have hj := (List.getElem?_eq_some_iff.1 h).1
  rw [takeL_eq (by rw [objs_len]; omega)]
  congr 1
  apply List.ext_getElem?
  intro r
  by_cases hr : r < 3
  · rw [List.getElem?_take_of_lt hr, List.getElem?_drop, show j * 5 + 1 + r = j * 5 + (1 + r) by omega, objs_get h (by omega)]
    match r, hr with
    | 0, _ => rfl
    | 1, _ => rfl
    | 2, _ => rfl
  · rw [List.getElem?_eq_none (by simp; omega), List.getElem?_eq_none (by simp; omega)]
set_option maxHeartbeats 8000000 in
theorem Words_ref {ws : List Int} {T : Nat} (size : Int) (h : Ch ws 0 os T) (hT : T ≤ 65536) (hwl : T ≤ ws.length) : Does Try.prog 76 [refV size a os.length cap] (refL a cap os)
    (fun v l => ∃ a' cap', (a' = none → T = 0 ∧ cap' = 0) ∧ v = .slice a' T cap' ∧ l = rowz 3 1 a' T cap' (intsV (ws.take T)) :: refL a cap os) := by
  have hlen := h.len
  refine Does.of tiok Try.func76 (by kernel_rfl) rfl Try.ntmps76 rfl ?_
  intro W fr
  refine J_rowzf P0 ?_
  rintro ⟨hl, hn, hc⟩
  have hR : Reads (objsZ a cap os) 5 os.length a cap (os.flatMap cellsO) := Reads.rowz hl hn
  refine J_fact _ (fun w hs => RW_ok hs (.tail _ (.head _))) (fun ok => ?_)
  repeat' (first | (refine IsO ?_; first | refine JO_nil ?_ | (refine IsBin ?_; refine B1 rfl rfl rfl rfl ?_) | (refine IsLoad ?_; refine L1 rfl rfl rfl rfl ?_) | (refine IsBox ?_; refine N1 rfl rfl rfl rfl (fun _ => ?_)) | refine V1 rfl rfl rfl ?_) | (refine IsAt ?_; first | (with_reducible first | refine T1 ?_ | refine T3 ?_ | refine T5 ?_ | refine T6 ?_) | ((with_reducible show At _ (PBlock _ _ (Exit.exit _)) _ _); refine At_block_hit ?_)) | (refine IsJ ?_; first | refine J_seq ?_ | refine J_region ?_ | refine J_block ?_ | refine J_skip ?_ | refine J_ret ?_ | refine J_exit ?_ | (refine IsCond ?_; refine J_cb rfl (fun _ => ?_) (fun _ => ?_))))
  rename_i bx
  refine J_loop (α := Nat × Option Addr × Nat) (fun x => x.1 ≤ os.length)
    (fun x => [(1, ptr bx 0), (3, .slice x.2.1 (posAt os T x.1) x.2.2), (7, .int .i64 os.length), (8, .int .i64 x.1)])
    (fun x => blk bx [.int .i64 size, .slice a os.length cap] 33 :: rowz 3 1 x.2.1 (posAt os T x.1) x.2.2 (intsV (ws.take (posAt os T x.1))) :: refL a cap os) (fun x => os.length - x.1) (0, none, 0) (Nat.zero_le _) ?_ ?_ ?_
  · simp only [h.pos0]; exact (by repeat (first | exact True.intro | refine And.intro rfl ?_))
  · intro H hl
    simp only [h.pos0]
    exact (rowz_nil hl).swap
  rintro ⟨q, oa, oc⟩ hq
  have hpb := h.pos_le q
  dsimp only at hq ⊢
  repeat' (first | (refine IsO ?_; first | refine JO_nil ?_ | (refine IsBin ?_; refine B1 rfl rfl rfl rfl ?_) | (refine IsLoad ?_; refine L1 rfl rfl rfl rfl ?_) | (refine IsBox ?_; refine N1 rfl rfl rfl rfl (fun _ => ?_)) | refine V1 rfl rfl rfl ?_) | (refine IsAt ?_; first | (with_reducible first | refine T1 ?_ | refine T3 ?_ | refine T5 ?_ | refine T6 ?_) | ((with_reducible show At _ (PBlock _ _ (Exit.exit _)) _ _); refine At_block_hit ?_)) | (refine IsJ ?_; first | refine J_seq ?_ | refine J_region ?_ | refine J_block ?_ | refine J_skip ?_ | refine J_ret ?_ | refine J_exit ?_ | (refine IsCond ?_; refine J_cb rfl (fun _ => ?_) (fun _ => ?_))))
  · rename_i hlt
    have hlt' : q < os.length := by omega
    obtain ⟨o, ho⟩ : ∃ o, os[q]? = some o := ⟨os[q], List.getElem?_eq_getElem _⟩
    have hp := posAt_of (T := T) ho
    have hp2 := h.pos ho
    obtain ⟨k1, k2, k3, k4, k5⟩ := (h.at ho).2
    have hle : o.i + 1 + o.ws.length ≤ T := k5.le
    rw [hp]
    refine J_fact _ (fun w hs => hR.some (by omega) hs (.tail _ (.tail _ (.head _)))) ?_
    rintro ⟨b, of, rfl⟩
    refine J_drawk [blk bx [.int .i64 size, .slice (some ⟨b, of, none⟩) os.length cap] 33, objsZ (some ⟨b, of, none⟩) cap os] (fun H hl => hl.pick (is := [0, 1]) rfl) [0, 0, 5, 0, 0, 0, 5, 2, 2, 2, 0, 5, 0, 0, 0, 5, 2, 0] [0, 1, 2, 3, 4, 5, 6, 10, 11, 12, 13, 14, 15, 7, 8, 9, 16, 17] (by kernel_rfl) (by kernel_rfl) ?_
    repeat' (refine IsX ?_; first | (refine JX_nil ?_; refine At_np ?_) | (refine JX_op rfl ?_; refine XsO ?_; first | (refine XsLoad ?_; refine XL1k rfl rfl rfl rfl rfl ?_) | refine XV1 rfl rfl rfl rfl ?_))
    refine JX_val rfl rfl (OV_idx (off := of + q * 5) rfl rfl rfl rfl (by omega) (by omega) (by simp)) rfl rfl ?_
    repeat' (refine IsX ?_; first | (refine JX_nil ?_; refine At_np ?_) | (refine JX_op rfl ?_; refine XsO ?_; first | (refine XsLoad ?_; refine XL1k rfl rfl rfl rfl rfl ?_) | refine XV1 rfl rfl rfl rfl ?_))
    refine JX_kept rfl rfl (OK_readA (i := q * 5 + 1) (vs := [.int .i64 o.k, .int .i64 o.ws.length, .int .i64 o.p]) hR (by repeat (first | exact .head _ | refine .tail _ ?_)) rfl rfl rfl (by omega) (objs_head ho)) rfl rfl ?_
    repeat' (refine IsX ?_; first | (refine JX_nil ?_; refine At_np ?_) | (refine JX_op rfl ?_; refine XsO ?_; first | (refine XsLoad ?_; refine XL1k rfl rfl rfl rfl rfl ?_) | refine XV1 rfl rfl rfl rfl ?_))
    refine JX_val rfl rfl (OV_idx (off := of + q * 5) rfl rfl rfl rfl (by omega) (by omega) (by simp)) rfl rfl ?_
    repeat' (refine IsX ?_; first | (refine JX_nil ?_; refine At_np ?_) | (refine JX_op rfl ?_; refine XsO ?_; first | (refine XsLoad ?_; refine XL1k rfl rfl rfl rfl rfl ?_) | refine XV1 rfl rfl rfl rfl ?_))
    refine JX_kept rfl rfl (OK_read (i := q * 5 + 4) (v := .slice o.wa o.ws.length o.wc) hR (by repeat (first | exact .head _ | refine .tail _ ?_)) rfl rfl (by omega) (by rw [objs_get ho (by omega)]; rfl)) rfl rfl ?_
    repeat' (refine IsX ?_; first | (refine JX_nil ?_; refine At_np ?_) | (refine JX_op rfl ?_; refine XsO ?_; first | (refine XsLoad ?_; refine XL1k rfl rfl rfl rfl rfl ?_) | refine XV1 rfl rfl rfl rfl ?_))
    refine JX_lk rfl rfl (OL_call [] rfl rfl rfl (refPack_spec _ _ _ k2) rfl) rfl rfl ?_ ?_
    · rintro _ _ ⟨_, ⟨rfl, rfl⟩, rfl⟩ H hl
      exact hl.pick (is := [0, 1]) rfl
    rintro _ _ ⟨_, ⟨rfl, rfl⟩, rfl⟩ _
    repeat' (refine IsX ?_; first | (refine JX_nil ?_; refine At_np ?_) | (refine JX_op rfl ?_; refine XsO ?_; first | (refine XsLoad ?_; refine XL1k rfl rfl rfl rfl rfl ?_) | refine XV1 rfl rfl rfl rfl ?_))
    refine JX_lk rfl rfl (OL_buildSlice (cs := [.int .i64 (packI o.k o.ws.length o.p)]) rfl rfl rfl rfl rfl rfl rfl rfl) rfl rfl ?_ ?_
    · rintro _ _ ⟨_, rfl, rfl⟩ H hl
      exact hl.pick (is := [1, 2]) rfl
    rintro _ _ ⟨b1, rfl, rfl⟩ _
    refine JX_lk rfl rfl (OL_appendr (m := 1) rfl rfl rfl rfl rfl P2 ((Reads.blk rfl).src (.head _)) rfl rfl (fun _ h => by cases h) (by omega) (by omega) (by decide)) rfl rfl ?_ ?_
    · rintro _ _ ⟨a1, c1, rfl, rfl⟩ H hl
      exact hl.pick (is := [2, 2]) rfl
    rintro _ _ ⟨a1, c1, rfl, rfl⟩ _
    refine JX_lk rfl rfl (OL_appendr (m := o.ws.length) rfl rfl rfl rfl rfl P0 ((RW.reads (List.mem_of_getElem? ho) ok).src (by repeat (first | exact .head _ | refine .tail _ ?_))) (plainL_ints _) rfl (fun _ h => by cases h) (by omega) (by omega) (by decide)) rfl rfl ?_ ?_
    · rintro _ _ ⟨a2, c2, rfl, rfl⟩ H hl
      exact hl.pick (is := [2, 2]) rfl
    rintro _ _ ⟨a2, c2, rfl, rfl⟩ _
    repeat' (refine IsX ?_; first | (refine JX_nil ?_; refine At_np ?_) | (refine JX_op rfl ?_; refine XsO ?_; first | (refine XsLoad ?_; refine XL1k rfl rfl rfl rfl rfl ?_) | refine XV1 rfl rfl rfl rfl ?_))
    repeat' (first | (refine IsO ?_; first | refine JO_nil ?_ | (refine IsBin ?_; refine B1 rfl rfl rfl rfl ?_) | (refine IsLoad ?_; refine L1 rfl rfl rfl rfl ?_) | (refine IsBox ?_; refine N1 rfl rfl rfl rfl (fun _ => ?_)) | refine V1 rfl rfl rfl ?_) | (refine IsAt ?_; first | (with_reducible first | refine T1 ?_ | refine T3 ?_ | refine T5 ?_ | refine T6 ?_) | ((with_reducible show At _ (PBlock _ _ (Exit.exit _)) _ _); refine At_block_hit ?_)) | (refine IsJ ?_; first | refine J_seq ?_ | refine J_region ?_ | refine J_block ?_ | refine J_skip ?_ | refine J_ret ?_ | refine J_exit ?_ | (refine IsCond ?_; refine J_cb rfl (fun _ => ?_) (fun _ => ?_))))
    refine At_round (q + 1, a2, c2) (by show os.length - (q + 1) < os.length - q; omega) (show q + 1 ≤ os.length by omega) ?_ ?_
    · simp only [hp2]
      exact (by repeat (first | exact True.intro | refine And.intro rfl ?_))
    · intro H hl
      simp only [hp2]
      have e : intsV (ws.take (o.i + 1 + o.ws.length)) = intsV (ws.take o.i) ++ [.int .i64 (packI o.k o.ws.length o.p)] ++ intsV o.ws := by
        rw [show intsV (ws.take o.i) ++ [.int .i64 (packI o.k o.ws.length o.p)] = intsV (ws.take (o.i + 1)) from take_ints (xs := [packI o.k o.ws.length o.p]) rfl (fun j hj => by
          obtain rfl : j = 0 := by omega
          exact k3)]
        exact (take_ints rfl k4).symm
      rw [e]
      exact hl.pick (is := [2, 0, 1, 1]) rfl
  · have hqq : q = os.length := by omega
    subst hqq
    rw [posAt_end]
    refine At_fact _ (fun w hs => rowz_len hs (.tail _ (.head _))) ?_
    rintro ⟨_, hz, _⟩
    exact At_ret rfl rfl (.tmp rfl .nil) rfl (is := [1, 1, 1]) rfl ⟨oa, oc, hz, rfl, rfl⟩
end ops
end Go.Proofs.Ytahfnbpbdnmggaa
/-
  Our own: the document's heaps (besomref01): Check; the law's Is: that a heap is the document's.
-/
set_option linter.unusedVariables false
set_option linter.unusedSimpArgs false
namespace Go.Proofs.Ytahfnbpbdnmggaa
open Go.Sep
def okO (ws : List Int) (st : List Bool) (o : RO) : Prop := ∀ (j : Nat) (x : Int), (j : Int) < o.p → o.ws[j]? = some x → leadsB ws st x = true
theorem refs_iff {n T : Nat} {ws : List Int} {st : List Bool} {os : List RO} (h : HT n T ws st) (hc : Ch ws 0 os T) : RefsOk ws st ↔ ∀ o ∈ os, okO ws st o := by
  constructor
  · intro hr o ho j x hj hx
    obtain ⟨q, hq⟩ := List.getElem?_of_mem ho
    obtain ⟨⟨_, k1⟩, k2, k3, k4, k5⟩ := findR_some (x := 0) h hc hq
    rw [Int.toNat_natCast] at k1
    have hjl := (List.getElem?_eq_some_iff.1 hx).1
    have := hr o.i _ k1 k2 j (by rw [(packI_un k3).2.2.2.2]; exact hj)
    rw [getD_of ((k5 j hjl).trans hx)] at this
    exact this
  · intro hr i w hs hw j hj
    obtain ⟨o, ho, e⟩ := Ch.find h hc (h.zero.imp (fun e => e.symm) id) i (Nat.zero_le _) hs
    subst e
    obtain ⟨q, hq⟩ := List.getElem?_of_mem ho
    obtain ⟨⟨_, k1⟩, k2, k3, k4, k5⟩ := findR_some (x := 0) h hc hq
    rw [hw] at k2; injection k2 with k2; subst k2
    rw [(packI_un k3).2.2.2.2] at hj
    have hgb := of_decide_eq_true k3
    have hjl : j < o.ws.length := by omega
    rw [getD_of ((k5 j hjl).trans (List.getElem?_eq_getElem hjl))]
    exact hr o ho j _ hj (List.getElem?_eq_getElem hjl)
theorem Ch.mem64 {n T : Nat} {ws : List Int} {st : List Bool} {os : List RO} (h : HT n T ws st) (hc : Ch ws 0 os T) {o : RO} (ho : o ∈ os) {j : Nat} {x : Int} (hx : o.ws[j]? = some x) : In64 x := by
  obtain ⟨q, hq⟩ := List.getElem?_of_mem ho
  obtain ⟨_, k2, k3, k4, k5⟩ := findR_some (x := 0) h hc hq
  have hjl := (List.getElem?_eq_some_iff.1 hx).1
  exact h.w64 x (List.mem_of_getElem? ((k5 j hjl).trans hx))
section ops
variable {a : Option Addr} {cap : Nat} {os : List RO} {n T : Nat} {ws : List Int} {st : List Bool}
set_option maxHeartbeats 8000000 in
theorem Check_ref (size : Int) (h : HT n T ws st) (hc : Ch ws 0 os T) : Does Try.prog 78 [refV size a os.length cap] (refL a cap os)
    (fun v l => ∃ t : Bool, (t = true ↔ RefsOk ws st) ∧ v = .bool t ∧ l = refL a cap os) := by
  have hlen := hc.len
  have htn := h.tn
  have hnb := h.nb
  refine Does.of tiok Try.func78 (by kernel_rfl) rfl Try.ntmps78 rfl ?_
  intro W fr
  refine J_rowzf P0 ?_
  rintro ⟨hl, hn, hcc⟩
  have hR : Reads (objsZ a cap os) 5 os.length a cap (os.flatMap cellsO) := Reads.rowz hl hn
  refine J_fact _ (fun w hs => RW_ok hs (.tail _ (.head _))) (fun ok => ?_)
  repeat' (first | (refine IsO ?_; first | refine JO_nil ?_ | (refine IsBin ?_; refine B1 rfl rfl rfl rfl ?_) | (refine IsLoad ?_; refine L1 rfl rfl rfl rfl ?_) | (refine IsBox ?_; refine N1 rfl rfl rfl rfl (fun _ => ?_)) | refine V1 rfl rfl rfl ?_) | (refine IsAt ?_; first | (with_reducible first | refine T1 ?_ | refine T2 ?_ | refine T3 ?_ | refine T4 ?_ | refine T5 ?_ | refine T6 ?_ | refine T7 ?_) | ((with_reducible show At _ (PBlock _ _ (Exit.exit _)) _ _); refine At_block_hit ?_)) | (refine IsJ ?_; first | refine J_seq ?_ | refine J_region ?_ | refine J_block ?_ | refine J_skip ?_ | refine J_ret ?_ | refine J_exit ?_ | (refine IsCond ?_; first | refine J_cond_t rfl ?_ | refine J_cond_f rfl ?_ | refine J_cb rfl (fun _ => ?_) (fun _ => ?_))))
  rename_i bx
  refine J_loop (α := Nat) (fun q => q ≤ os.length ∧ ∀ (j : Nat) (o : RO), j < q → os[j]? = some o → okO ws st o)
    (fun q => [(1, ptr bx 0), (7, .int .i64 os.length), (8, .int .i64 q)])
    (fun q => blk bx [.int .i64 size, .slice a os.length cap] 33 :: refL a cap os) (fun q => os.length - q) 0 ⟨Nat.zero_le _, fun j o hj => absurd hj (Nat.not_lt_zero _)⟩ (by repeat (first | exact True.intro | refine And.intro rfl ?_)) (fun H hl => hl) ?_
  rintro q ⟨hq, hI⟩
  repeat' (first | (refine IsO ?_; first | refine JO_nil ?_ | (refine IsBin ?_; refine B1 rfl rfl rfl rfl ?_) | (refine IsLoad ?_; refine L1 rfl rfl rfl rfl ?_) | (refine IsBox ?_; refine N1 rfl rfl rfl rfl (fun _ => ?_)) | refine V1 rfl rfl rfl ?_) | (refine IsAt ?_; first | (with_reducible first | refine T1 ?_ | refine T2 ?_ | refine T3 ?_ | refine T4 ?_ | refine T5 ?_ | refine T6 ?_ | refine T7 ?_) | ((with_reducible show At _ (PBlock _ _ (Exit.exit _)) _ _); refine At_block_hit ?_)) | (refine IsJ ?_; first | refine J_seq ?_ | refine J_region ?_ | refine J_block ?_ | refine J_skip ?_ | refine J_ret ?_ | refine J_exit ?_ | (refine IsCond ?_; first | refine J_cond_t rfl ?_ | refine J_cond_f rfl ?_ | refine J_cb rfl (fun _ => ?_) (fun _ => ?_))))
  · rename_i hlt
    have hlt' : q < os.length := by omega
    obtain ⟨o, ho⟩ : ∃ o, os[q]? = some o := ⟨os[q], List.getElem?_eq_getElem _⟩
    obtain ⟨_, k2, k3, k4, k5⟩ := findR_some (x := 0) h hc ho
    have hgb := of_decide_eq_true k3
    obtain ⟨m, hm⟩ := Int.eq_ofNat_of_zero_le hgb.2.2.2.2.1
    have hmw : m ≤ o.ws.length := by omega
    refine J_loop (α := Nat) (fun k => k ≤ m ∧ ∀ (j : Nat) (x : Int), j < k → o.ws[j]? = some x → leadsB ws st x = true)
      (fun k => [(1, ptr bx 0), (3, .int .i64 q), (4, .int .i64 k), (7, .int .i64 os.length), (8, .int .i64 q)])
      (fun k => blk bx [.int .i64 size, .slice a os.length cap] 33 :: refL a cap os) (fun k => m - k) 0 ⟨Nat.zero_le _, fun j o hj => absurd hj (Nat.not_lt_zero _)⟩ (by repeat (first | exact True.intro | refine And.intro rfl ?_)) (fun H hl => hl) ?_
    rintro k ⟨hk, hJ⟩
    refine J_fact _ (fun w hs => hR.some (by omega) hs (.tail _ (.head _))) ?_
    rintro ⟨b, of, rfl⟩
    repeat' (first | (refine IsO ?_; first | refine JO_nil ?_ | (refine IsBin ?_; refine B1 rfl rfl rfl rfl ?_) | (refine IsLoad ?_; refine L1 rfl rfl rfl rfl ?_) | (refine IsBox ?_; refine N1 rfl rfl rfl rfl (fun _ => ?_)) | refine V1 rfl rfl rfl ?_) | (refine IsAt ?_; first | (with_reducible first | refine T1 ?_ | refine T2 ?_ | refine T3 ?_ | refine T4 ?_ | refine T5 ?_ | refine T6 ?_ | refine T7 ?_) | ((with_reducible show At _ (PBlock _ _ (Exit.exit _)) _ _); refine At_block_hit ?_)) | (refine IsJ ?_; first | refine J_seq ?_ | refine J_region ?_ | refine J_block ?_ | refine J_skip ?_ | refine J_ret ?_ | refine J_exit ?_ | (refine IsCond ?_; first | refine J_cond_t rfl ?_ | refine J_cond_f rfl ?_ | refine J_cb rfl (fun _ => ?_) (fun _ => ?_))))
    refine JO_val (OV_idx (off := of + q * 5) rfl rfl rfl rfl (by omega) (by omega) (by simp)) rfl rfl ?_
    repeat' (first | (refine IsO ?_; first | refine JO_nil ?_ | (refine IsBin ?_; refine B1 rfl rfl rfl rfl ?_) | (refine IsLoad ?_; refine L1 rfl rfl rfl rfl ?_) | (refine IsBox ?_; refine N1 rfl rfl rfl rfl (fun _ => ?_)) | refine V1 rfl rfl rfl ?_) | (refine IsAt ?_; first | (with_reducible first | refine T1 ?_ | refine T2 ?_ | refine T3 ?_ | refine T4 ?_ | refine T5 ?_ | refine T6 ?_ | refine T7 ?_) | ((with_reducible show At _ (PBlock _ _ (Exit.exit _)) _ _); refine At_block_hit ?_)) | (refine IsJ ?_; first | refine J_seq ?_ | refine J_region ?_ | refine J_block ?_ | refine J_skip ?_ | refine J_ret ?_ | refine J_exit ?_ | (refine IsCond ?_; first | refine J_cond_t rfl ?_ | refine J_cond_f rfl ?_ | refine J_cb rfl (fun _ => ?_) (fun _ => ?_))))
    refine JO_q (OQ_read (i := q * 5 + 3) (v := .int .i64 o.p) hR (.tail _ (.head _)) rfl rfl (by omega) (by rw [objs_get ho (by omega)]; rfl)) rfl rfl ?_
    repeat' (first | (refine IsO ?_; first | refine JO_nil ?_ | (refine IsBin ?_; refine B1 rfl rfl rfl rfl ?_) | (refine IsLoad ?_; refine L1 rfl rfl rfl rfl ?_) | (refine IsBox ?_; refine N1 rfl rfl rfl rfl (fun _ => ?_)) | refine V1 rfl rfl rfl ?_) | (refine IsAt ?_; first | (with_reducible first | refine T1 ?_ | refine T2 ?_ | refine T3 ?_ | refine T4 ?_ | refine T5 ?_ | refine T6 ?_ | refine T7 ?_) | ((with_reducible show At _ (PBlock _ _ (Exit.exit _)) _ _); refine At_block_hit ?_)) | (refine IsJ ?_; first | refine J_seq ?_ | refine J_region ?_ | refine J_block ?_ | refine J_skip ?_ | refine J_ret ?_ | refine J_exit ?_ | (refine IsCond ?_; first | refine J_cond_t rfl ?_ | refine J_cond_f rfl ?_ | refine J_cb rfl (fun _ => ?_) (fun _ => ?_))))
    · rename_i hlt2
      have hkm : k < m := by omega
      obtain ⟨x, hx⟩ : ∃ x, o.ws[k]? = some x := ⟨o.ws[k]'(by omega), List.getElem?_eq_getElem _⟩
      have hRW := RW.reads (List.mem_of_getElem? ho) ok
      refine J_fact _ (fun w hs => hRW.some (by omega) hs (.tail _ (.tail _ (.head _)))) ?_
      rintro ⟨wb, wo, hwa⟩
      rw [hwa] at hRW
      refine J_draw [1, 0, 1, 0, 0, 0, 1, 0, 0, 1, 2, 0] (List.range 12) (by kernel_rfl) (by kernel_rfl) ?_
      repeat' (refine IsX ?_; first | (refine JX_nil ?_; refine At_np ?_) | (refine JX_op rfl ?_; refine XsO ?_; first | (refine XsLoad ?_; first | refine XL1 rfl rfl rfl rfl rfl ?_ | refine XL2 rfl rfl rfl rfl rfl rfl ?_) | refine XV1 rfl rfl rfl rfl ?_))
      refine JX_val rfl rfl (OV_idx (off := of + q * 5) rfl rfl rfl rfl (by omega) (by omega) (by simp)) rfl rfl ?_
      repeat' (refine IsX ?_; first | (refine JX_nil ?_; refine At_np ?_) | (refine JX_op rfl ?_; refine XsO ?_; first | (refine XsLoad ?_; first | refine XL1 rfl rfl rfl rfl rfl ?_ | refine XL2 rfl rfl rfl rfl rfl rfl ?_) | refine XV1 rfl rfl rfl rfl ?_))
      refine JX_q rfl rfl (OQ_read (i := q * 5 + 4) (v := .slice o.wa o.ws.length o.wc) hR (.tail _ (.head _)) rfl rfl (by omega) (by rw [objs_get ho (by omega)]; rfl)) rfl rfl ?_
      rw [hwa]
      repeat' (refine IsX ?_; first | (refine JX_nil ?_; refine At_np ?_) | (refine JX_op rfl ?_; refine XsO ?_; first | (refine XsLoad ?_; first | refine XL1 rfl rfl rfl rfl rfl ?_ | refine XL2 rfl rfl rfl rfl rfl rfl ?_) | refine XV1 rfl rfl rfl rfl ?_))
      refine JX_val rfl rfl (OV_idx (off := wo + k) rfl rfl rfl rfl (by omega) (by omega) (by simp)) rfl rfl ?_
      refine JX_q rfl rfl (OQ_read (i := k) (v := .int .i64 x) hRW (by repeat (first | exact .head _ | refine .tail _ ?_)) rfl rfl (by omega) (by simp [hx])) rfl rfl ?_
      refine JX_l rfl rfl (OL_call [1, 1] rfl rfl rfl (Leads_spec size x h hc (Ch.mem64 h hc (List.mem_of_getElem? ho) hx)) rfl) rfl rfl ?_
      rintro _ _ ⟨_, ⟨rfl, rfl⟩, rfl⟩
      cases hlB : leadsB ws st x with
      | true =>
        repeat' (refine IsX ?_; first | (refine JX_nil ?_; refine At_np ?_) | (refine JX_op rfl ?_; refine XsO ?_; first | (refine XsLoad ?_; first | refine XL1 rfl rfl rfl rfl rfl ?_ | refine XL2 rfl rfl rfl rfl rfl rfl ?_) | refine XV1 rfl rfl rfl rfl ?_))
        repeat' (first | (refine IsO ?_; first | refine JO_nil ?_ | (refine IsBin ?_; refine B1 rfl rfl rfl rfl ?_) | (refine IsLoad ?_; refine L1 rfl rfl rfl rfl ?_) | (refine IsBox ?_; refine N1 rfl rfl rfl rfl (fun _ => ?_)) | refine V1 rfl rfl rfl ?_) | (refine IsAt ?_; first | (with_reducible first | refine T1 ?_ | refine T2 ?_ | refine T3 ?_ | refine T4 ?_ | refine T5 ?_ | refine T6 ?_ | refine T7 ?_) | ((with_reducible show At _ (PBlock _ _ (Exit.exit _)) _ _); refine At_block_hit ?_)) | (refine IsJ ?_; first | refine J_seq ?_ | refine J_region ?_ | refine J_block ?_ | refine J_skip ?_ | refine J_ret ?_ | refine J_exit ?_ | (refine IsCond ?_; first | refine J_cond_t rfl ?_ | refine J_cond_f rfl ?_ | refine J_cb rfl (fun _ => ?_) (fun _ => ?_))))
        refine At_round (k + 1) (by show m - (k + 1) < m - k; omega) ⟨by omega, fun j y hj hy => ?_⟩ (by repeat (first | exact True.intro | refine And.intro rfl ?_)) (fun H hl => hl.pick (is := [2, 0, 0]) rfl)
        by_cases e : j = k
        · subst e; rw [hx] at hy; injection hy with hy; subst hy; exact hlB
        · exact hJ j y (by omega) hy
      | false =>
        repeat' (refine IsX ?_; first | (refine JX_nil ?_; refine At_np ?_) | (refine JX_op rfl ?_; refine XsO ?_; first | (refine XsLoad ?_; first | refine XL1 rfl rfl rfl rfl rfl ?_ | refine XL2 rfl rfl rfl rfl rfl rfl ?_) | refine XV1 rfl rfl rfl rfl ?_))
        repeat' (first | (refine IsO ?_; first | refine JO_nil ?_ | (refine IsBin ?_; refine B1 rfl rfl rfl rfl ?_) | (refine IsLoad ?_; refine L1 rfl rfl rfl rfl ?_) | (refine IsBox ?_; refine N1 rfl rfl rfl rfl (fun _ => ?_)) | refine V1 rfl rfl rfl ?_) | (refine IsAt ?_; first | (with_reducible first | refine T1 ?_ | refine T2 ?_ | refine T3 ?_ | refine T4 ?_ | refine T5 ?_ | refine T6 ?_ | refine T7 ?_) | ((with_reducible show At _ (PBlock _ _ (Exit.exit _)) _ _); refine At_block_hit ?_)) | (refine IsJ ?_; first | refine J_seq ?_ | refine J_region ?_ | refine J_block ?_ | refine J_skip ?_ | refine J_ret ?_ | refine J_exit ?_ | (refine IsCond ?_; first | refine J_cond_t rfl ?_ | refine J_cond_f rfl ?_ | refine J_cb rfl (fun _ => ?_) (fun _ => ?_))))
        refine At_ret rfl rfl (.tmp rfl .nil) rfl (is := [0, 0]) rfl ⟨false, ⟨fun e => absurd e (by decide), fun hr => ?_⟩, rfl, rfl⟩
        have := (refs_iff h hc).1 hr o (List.mem_of_getElem? ho) k x (by omega) hx
        rw [hlB] at this; exact this
    · have hkm : k = m := by omega
      subst hkm
      refine At_round (q + 1) (by show os.length - (q + 1) < os.length - q; omega) ⟨by omega, fun j o' hj hj2 => ?_⟩ (by repeat (first | exact True.intro | refine And.intro rfl ?_)) (fun H hl => hl)
      by_cases e : j = q
      · subst e
        rw [ho] at hj2; injection hj2 with hj2; subst hj2
        exact fun j x hj hx => hJ j x (by omega) hx
      · exact hI j o' (by omega) hj2
  · have hqq : q = os.length := by omega
    subst hqq
    refine At_ret rfl rfl (.tmp rfl .nil) rfl (is := [1, 1]) rfl ⟨true, ⟨fun _ => (refs_iff h hc).2 fun o ho => ?_, fun _ => rfl⟩, rfl, rfl⟩
    obtain ⟨j, hj⟩ := List.getElem?_of_mem ho
    exact hI j o (List.getElem?_eq_some_iff.1 hj).1 hj
theorem map_add0 (p : Option Addr) : p.map (·.add (0 * 1)) = p := by
  cases p with
  | none => rfl
  | some x => obtain ⟨b, o, m⟩ := x; cases m <;> rfl
/-- What besomlaw01.Is holds while the objects are gone through. -/
abbrev isY (bo bi bm : Nat) (size : Int) (a : Option Addr) (cap : Nat) (os : List RO) (q : Nat) : List HP :=
  [blk bo [.bool true] 4, blk bi [.int .i64 q] 3, blk bm [.int .i64 size, .slice a os.length cap] 33, objsZ a cap os, RW os]
set_option maxHeartbeats 8000000 in
theorem Is1_spec (size : Int) {bo bi bm q i : Nat} {w : Int} (h : HT n T ws st) (hc : Ch ws 0 os T) (hq : posAt os T q = i) (hs : st[i]? = some true) (hw : ws[i]? = some w) :
    Does Try.prog 74 [.int .i64 i, headV (unK w) (unN w) (unP w), ptr bo 0, ptr bi 0, ptr bm 0] (isY bo bi bm size a cap os q)
      (fun v l => v = .bool true ∧ q < os.length ∧ posAt os T (q + 1) = i + 1 + (unN w).toNat ∧ l = isY bo bi bm size a cap os (q + 1)) := by
  have hlen := hc.len
  have htn := h.tn
  have hnb := h.nb
  have hlt := h.lt hs
  have hql : q < os.length := by
    rcases Nat.lt_or_ge q os.length with c | c
    · exact c
    · unfold posAt at hq
      rw [List.getElem?_eq_none c] at hq
      dsimp only at hq
      omega
  obtain ⟨o, ho⟩ : ∃ o, os[q]? = some o := ⟨os[q], List.getElem?_eq_getElem _⟩
  have hp := posAt_of (T := T) ho
  have hp2 := hc.pos ho
  obtain ⟨_, k2, k3, k4, k5⟩ := findR_some (x := 0) h hc ho
  have hoi : o.i = i := by omega
  rw [hoi, hw] at k2
  injection k2 with k2
  obtain ⟨_, _, u3, u4, u5⟩ := packI_un k3
  rw [← k2] at u3 u4 u5
  rw [u3, u4, u5]
  refine Does.of tiok Try.func74 (by kernel_rfl) rfl Try.ntmps74 rfl ?_
  intro W fr
  refine J_rowzf P3 ?_
  rintro ⟨hl, hn, hcc⟩
  have hR : Reads (objsZ a cap os) 5 os.length a cap (os.flatMap cellsO) := Reads.rowz hl hn
  refine J_fact _ (fun w hs => hR.some (by omega) hs (.tail _ (.tail _ (.tail _ (.head _))))) ?_
  rintro ⟨b, of, rfl⟩
  repeat' (first | (refine IsO ?_; first | refine JO_nil ?_ | (refine IsBin ?_; refine B1 rfl rfl rfl rfl ?_) | (refine IsLoad ?_; refine L1 rfl rfl rfl rfl ?_) | (refine IsStore ?_; refine S1 rfl rfl rfl rfl rfl rfl rfl (fun _ => ?_)) | (refine IsBox ?_; refine N1 rfl rfl rfl rfl (fun _ => ?_)) | refine V1 rfl rfl rfl ?_) | (refine IsAt ?_; (with_reducible refine T1 ?_)) | (refine IsJ ?_; first | refine J_seq ?_ | refine J_region ?_ | refine J_ret ?_))
  refine J_draw [1, 0, 1, 0, 1, 0, 0, 0, 0, 0, 1, 1, 0, 0, 1, 0, 0, 0, 0, 0, 1, 1, 0, 0, 1, 1, 0, 0, 2] (List.range 29) (by kernel_rfl) (by kernel_rfl) ?_
  repeat' (refine IsX ?_; first | (refine JX_nil ?_; refine At_np ?_) | (refine JX_op rfl ?_; refine XsO ?_; first | (refine XsMove ?_; refine XM1 rfl rfl rfl rfl ?_) | (refine XsLoad ?_; first | refine XL1 rfl rfl rfl rfl rfl ?_ | refine XL2 rfl rfl rfl rfl rfl rfl ?_) | (refine XsStore ?_; refine XS1 rfl rfl rfl rfl rfl rfl rfl rfl (fun _ => ?_)) | refine XV1 rfl rfl rfl rfl ?_))
  refine JX_val rfl rfl (OV_idx (off := of + q * 5) rfl rfl rfl rfl (by omega) (by omega) (by simp)) rfl rfl ?_
  repeat' (refine IsX ?_; first | (refine JX_nil ?_; refine At_np ?_) | (refine JX_op rfl ?_; refine XsO ?_; first | (refine XsMove ?_; refine XM1 rfl rfl rfl rfl ?_) | (refine XsLoad ?_; first | refine XL1 rfl rfl rfl rfl rfl ?_ | refine XL2 rfl rfl rfl rfl rfl rfl ?_) | (refine XsStore ?_; refine XS1 rfl rfl rfl rfl rfl rfl rfl rfl (fun _ => ?_)) | refine XV1 rfl rfl rfl rfl ?_))
  refine JX_q rfl rfl (OQ_read (i := q * 5 + 0) (v := .int .i64 o.i) hR (by repeat (first | exact .head _ | refine .tail _ ?_)) rfl rfl (by omega) (by rw [objs_get ho (by omega)]; rfl)) rfl rfl ?_
  repeat' (refine IsX ?_; first | (refine JX_nil ?_; refine At_np ?_) | (refine JX_op rfl ?_; refine XsO ?_; first | (refine XsMove ?_; refine XM1 rfl rfl rfl rfl ?_) | (refine XsLoad ?_; first | refine XL1 rfl rfl rfl rfl rfl ?_ | refine XL2 rfl rfl rfl rfl rfl rfl ?_) | (refine XsStore ?_; refine XS1 rfl rfl rfl rfl rfl rfl rfl rfl (fun _ => ?_)) | refine XV1 rfl rfl rfl rfl ?_))
  refine JX_val rfl rfl (OV_idx (off := of + q * 5) rfl rfl rfl rfl (by omega) (by omega) (by simp)) rfl rfl ?_
  repeat' (refine IsX ?_; first | (refine JX_nil ?_; refine At_np ?_) | (refine JX_op rfl ?_; refine XsO ?_; first | (refine XsMove ?_; refine XM1 rfl rfl rfl rfl ?_) | (refine XsLoad ?_; first | refine XL1 rfl rfl rfl rfl rfl ?_ | refine XL2 rfl rfl rfl rfl rfl rfl ?_) | (refine XsStore ?_; refine XS1 rfl rfl rfl rfl rfl rfl rfl rfl (fun _ => ?_)) | refine XV1 rfl rfl rfl rfl ?_))
  refine JX_q rfl rfl (OQ_readA (i := q * 5 + 1) (vs := [.int .i64 o.k, .int .i64 o.ws.length, .int .i64 o.p]) hR (by repeat (first | exact .head _ | refine .tail _ ?_)) rfl rfl rfl (by omega) (objs_head ho)) rfl rfl ?_
  repeat' (refine IsX ?_; first | (refine JX_nil ?_; refine At_np ?_) | (refine JX_op rfl ?_; refine XsO ?_; first | (refine XsMove ?_; refine XM1 rfl rfl rfl rfl ?_) | (refine XsLoad ?_; first | refine XL1 rfl rfl rfl rfl rfl ?_ | refine XL2 rfl rfl rfl rfl rfl rfl ?_) | (refine XsStore ?_; refine XS1 rfl rfl rfl rfl rfl rfl rfl rfl (fun _ => ?_)) | refine XV1 rfl rfl rfl rfl ?_))
  refine JX_val rfl rfl (OV_eqagg rfl rfl (eqHead_same _ _ _)) rfl rfl ?_
  repeat' (refine IsX ?_; first | (refine JX_nil ?_; refine At_np ?_) | (refine JX_op rfl ?_; refine XsO ?_; first | (refine XsMove ?_; refine XM1 rfl rfl rfl rfl ?_) | (refine XsLoad ?_; first | refine XL1 rfl rfl rfl rfl rfl ?_ | refine XL2 rfl rfl rfl rfl rfl rfl ?_) | (refine XsStore ?_; refine XS1 rfl rfl rfl rfl rfl rfl rfl rfl (fun _ => ?_)) | refine XV1 rfl rfl rfl rfl ?_))
  repeat' (first | (refine IsO ?_; first | refine JO_nil ?_ | (refine IsBin ?_; refine B1 rfl rfl rfl rfl ?_) | (refine IsLoad ?_; refine L1 rfl rfl rfl rfl ?_) | (refine IsStore ?_; refine S1 rfl rfl rfl rfl rfl rfl rfl (fun _ => ?_)) | (refine IsBox ?_; refine N1 rfl rfl rfl rfl (fun _ => ?_)) | refine V1 rfl rfl rfl ?_) | (refine IsAt ?_; (with_reducible refine T1 ?_)) | (refine IsJ ?_; first | refine J_seq ?_ | refine J_region ?_ | refine J_ret ?_))
  exact At_ret rfl rfl (.tmp rfl .nil) rfl (is := [1, 0, 1, 1, 1]) rfl ⟨rfl, hql, by omega, rfl⟩
theorem Ch.pos_T (hc : Ch ws 0 os T) {q : Nat} (hq : q ≤ os.length) (e : posAt os T q = T) : q = os.length := by
  rcases Nat.lt_or_ge q os.length with c | c
  · have ho : os[q]? = some os[q] := List.getElem?_eq_getElem _
    have := posAt_of (T := T) ho
    have := (hc.at ho).2.2.2.2.2.le
    omega
  · omega
set_option maxHeartbeats 16000000 in
/-- The law's Is, of a heap and the document's, that agree. -/
theorem Is_spec {p bw bs : Nat} (h : HT n T ws st) (hc : Ch ws 0 os T) : Does Try.prog 54 [ptr p 0, refV n a os.length cap] (heapL p bw bs n ws T st ++ refL a cap os)
    (fun v l => v = .bool true ∧ l = heapL p bw bs n ws T st ++ refL a cap os) := by
  have hlen := hc.len
  have htn := h.tn
  have hnb := h.nb
  have hwl := h.wl
  refine Does.of tiok Try.func54 (by kernel_rfl) rfl Try.ntmps54 rfl ?_
  intro W fr
  repeat' (first | (refine IsO ?_; first | refine JO_nil ?_ | (refine IsStore ?_; refine S1 rfl rfl rfl rfl rfl rfl rfl (fun _ => ?_)) | (refine IsBox ?_; refine N1 rfl rfl rfl rfl (fun _ => ?_)) | (refine IsAlloc ?_; refine N2 rfl rfl rfl rfl (fun _ => ?_)) | refine V1 rfl rfl rfl ?_) | (refine IsAt ?_; (with_reducible refine T1 ?_)) | (refine IsJ ?_; first | refine J_seq ?_ | refine J_region ?_ | refine J_skip ?_ | refine J_ret ?_ | (refine IsCond ?_; refine K4 rfl ?_)))
  rename_i bm
  refine J_drawk [blk bm [.int .i64 n, .slice a os.length cap] 33] (fun H hl => hl.pick (is := [0]) rfl) [0, 0, 0, 0, 2, 0, 5, 0, 0, 0, 0, 2, 5, 2, 0, 0, 0, 0, 2, 0, 0, 5, 0, 0] [0, 1, 2, 3, 5, 6, 4, 7, 8, 9, 10, 12, 11, 13, 14, 15, 16, 17, 20, 21, 18, 19, 22, 23] (by kernel_rfl) (by kernel_rfl) ?_
  repeat' (refine IsX ?_; first | (refine JX_nil ?_; refine At_np ?_) | (refine JX_op rfl ?_; refine XsO ?_; first | (refine XsMove ?_; first | refine XM1 rfl rfl rfl rfl ?_ | refine XM4 rfl rfl rfl rfl ?_) | (refine XsBin ?_; first | refine XB7 rfl rfl rfl rfl rfl rfl ?_ | refine XB9 rfl rfl rfl rfl rfl rfl rfl rfl ?_) | (refine XsLoad ?_; first | refine XL1k rfl rfl rfl rfl rfl ?_ | refine XL2k rfl rfl rfl rfl rfl rfl ?_ | refine XL1 rfl rfl rfl rfl rfl ?_) | refine XV1 rfl rfl rfl rfl ?_))
  refine JX_lk rfl rfl (OL_call [1, 1, 1] rfl rfl rfl heapSize rfl) rfl rfl ?_ ?_
  · rintro _ _ ⟨_, ⟨rfl, rfl⟩, rfl⟩ H hl
    exact hl.pick (is := [3]) rfl
  rintro _ _ ⟨_, ⟨rfl, rfl⟩, rfl⟩ _
  repeat' (refine IsX ?_; first | (refine JX_nil ?_; refine At_np ?_) | (refine JX_op rfl ?_; refine XsO ?_; first | (refine XsMove ?_; first | refine XM1 rfl rfl rfl rfl ?_ | refine XM4 rfl rfl rfl rfl ?_) | (refine XsBin ?_; first | refine XB7 rfl rfl rfl rfl rfl rfl ?_ | refine XB9 rfl rfl rfl rfl rfl rfl rfl rfl ?_) | (refine XsLoad ?_; first | refine XL1k rfl rfl rfl rfl rfl ?_ | refine XL2k rfl rfl rfl rfl rfl rfl ?_ | refine XL1 rfl rfl rfl rfl rfl ?_) | refine XV1 rfl rfl rfl rfl ?_))
  refine JX_lk rfl rfl (OL_call [0, 0, 0] rfl rfl rfl heapTop rfl) rfl rfl ?_ ?_
  · rintro _ _ ⟨_, ⟨rfl, rfl⟩, rfl⟩ H hl
    exact hl.pick (is := [3]) rfl
  rintro _ _ ⟨_, ⟨rfl, rfl⟩, rfl⟩ _
  repeat' (refine IsX ?_; first | (refine JX_nil ?_; refine At_np ?_) | (refine JX_op rfl ?_; refine XsO ?_; first | (refine XsMove ?_; first | refine XM1 rfl rfl rfl rfl ?_ | refine XM4 rfl rfl rfl rfl ?_) | (refine XsBin ?_; first | refine XB7 rfl rfl rfl rfl rfl rfl ?_ | refine XB9 rfl rfl rfl rfl rfl rfl rfl rfl ?_) | (refine XsLoad ?_; first | refine XL1k rfl rfl rfl rfl rfl ?_ | refine XL2k rfl rfl rfl rfl rfl rfl ?_ | refine XL1 rfl rfl rfl rfl rfl ?_) | refine XV1 rfl rfl rfl rfl ?_))
  refine JX_lk rfl rfl (OL_call [4, 4] rfl rfl rfl (Top_spec n hc (by omega)) rfl) rfl rfl ?_ ?_
  · rintro _ _ ⟨_, ⟨rfl, rfl⟩, rfl⟩ H hl
    exact hl.pick (is := [5]) rfl
  rintro _ _ ⟨_, ⟨rfl, rfl⟩, rfl⟩ _
  repeat' (refine IsX ?_; first | (refine JX_nil ?_; refine At_np ?_) | (refine JX_op rfl ?_; refine XsO ?_; first | (refine XsMove ?_; first | refine XM1 rfl rfl rfl rfl ?_ | refine XM4 rfl rfl rfl rfl ?_) | (refine XsBin ?_; first | refine XB7 rfl rfl rfl rfl rfl rfl ?_ | refine XB9 rfl rfl rfl rfl rfl rfl rfl rfl ?_) | (refine XsLoad ?_; first | refine XL1k rfl rfl rfl rfl rfl ?_ | refine XL2k rfl rfl rfl rfl rfl rfl ?_ | refine XL1 rfl rfl rfl rfl rfl ?_) | refine XV1 rfl rfl rfl rfl ?_))
  refine JX_lk rfl rfl (OL_call [2, 2, 2] rfl rfl rfl (heapWords hwl hnb) rfl) rfl rfl ?_ ?_
  · rintro _ _ ⟨_, ⟨_, _, _, rfl, rfl⟩, rfl⟩ H hl
    exact hl.pick (is := [6]) rfl
  rintro _ _ ⟨_, ⟨wa, wc, hwn, rfl, rfl⟩, rfl⟩ _
  repeat' (refine IsX ?_; first | (refine JX_nil ?_; refine At_np ?_) | (refine JX_op rfl ?_; refine XsO ?_; first | (refine XsMove ?_; first | refine XM1 rfl rfl rfl rfl ?_ | refine XM4 rfl rfl rfl rfl ?_) | (refine XsBin ?_; first | refine XB7 rfl rfl rfl rfl rfl rfl ?_ | refine XB9 rfl rfl rfl rfl rfl rfl rfl rfl ?_) | (refine XsLoad ?_; first | refine XL1k rfl rfl rfl rfl rfl ?_ | refine XL2k rfl rfl rfl rfl rfl rfl ?_ | refine XL1 rfl rfl rfl rfl rfl ?_) | refine XV1 rfl rfl rfl rfl ?_))
  repeat' (first | (refine IsO ?_; first | refine JO_nil ?_ | (refine IsStore ?_; refine S1 rfl rfl rfl rfl rfl rfl rfl (fun _ => ?_)) | (refine IsBox ?_; refine N1 rfl rfl rfl rfl (fun _ => ?_)) | (refine IsAlloc ?_; refine N2 rfl rfl rfl rfl (fun _ => ?_)) | refine V1 rfl rfl rfl ?_) | (refine IsAt ?_; (with_reducible refine T1 ?_)) | (refine IsJ ?_; first | refine J_seq ?_ | refine J_region ?_ | refine J_skip ?_ | refine J_ret ?_ | (refine IsCond ?_; refine K4 rfl ?_)))
  refine JO_l (OL_call [] rfl rfl rfl (Walk_spec) rfl) rfl rfl ?_; rintro _ _ ⟨_, ⟨bh, rfl, rfl⟩, rfl⟩
  repeat' (first | (refine IsO ?_; first | refine JO_nil ?_ | (refine IsStore ?_; refine S1 rfl rfl rfl rfl rfl rfl rfl (fun _ => ?_)) | (refine IsBox ?_; refine N1 rfl rfl rfl rfl (fun _ => ?_)) | (refine IsAlloc ?_; refine N2 rfl rfl rfl rfl (fun _ => ?_)) | refine V1 rfl rfl rfl ?_) | (refine IsAt ?_; (with_reducible refine T1 ?_)) | (refine IsJ ?_; first | refine J_seq ?_ | refine J_region ?_ | refine J_skip ?_ | refine J_ret ?_ | (refine IsCond ?_; refine K4 rfl ?_)))
  rename_i bi bo _ _
  let Inv : Nat → Nat → Prop := fun i q => q ≤ os.length ∧ posAt os T q = i
  have hy : ∀ (i : Nat) (w : Int) (q : Nat), Inv i q → st[i]? = some true → ws[i]? = some w → wordB w = true → i + 1 + (unN w).toNat ≤ T →
      DoesV Try.prog (.func (.func 74) #[] #[ptr bo 0, ptr bi 0, ptr bm 0]) [.int .i64 i, headV (unK w) (unN w) (unP w)] (heapL p bw bs n ws T st ++ isY bo bi bm n a cap os q)
        (fun v l => (v = .bool true ∧ ∃ s', Inv (i + 1 + (unN w).toNat) s' ∧ l = heapL p bw bs n ws T st ++ isY bo bi bm n a cap os s') ∨ (v = .bool false ∧ ∃ s' : Nat, False ∧ l = heapL p bw bs n ws T st ++ isY bo bi bm n a cap os s')) := by
    intro i w q hI hs hw _ _
    refine DoesV.of (Does.mono ((Is1_spec n h hc hI.2 hs hw).fr _) ?_)
    rintro v l ⟨l1, ⟨rfl, e1, e2, rfl⟩, rfl⟩
    exact .inl ⟨rfl, q + 1, ⟨e1, e2⟩, rfl⟩
  refine JO_l (OL_call [0, 3, 3, 3, 0, 0, 3, 1, 1] rfl rfl rfl (walkGen (bh := bh) _ _ Inv _ h hy 0 ⟨Nat.zero_le _, hc.pos0⟩) rfl) rfl rfl ?_; rintro _ _ ⟨_, ⟨q, hq, rfl, rfl⟩, rfl⟩
  have hqe : q = os.length := by
    rcases hq with hq | hq
    · exact hc.pos_T hq.1 hq.2
    · exact hq.elim
  subst hqe
  have hxl : (ws.take T).length = T := by simp; omega
  repeat' (first | (refine IsO ?_; first | refine JO_nil ?_ | (refine IsStore ?_; refine S1 rfl rfl rfl rfl rfl rfl rfl (fun _ => ?_)) | (refine IsBox ?_; refine N1 rfl rfl rfl rfl (fun _ => ?_)) | (refine IsAlloc ?_; refine N2 rfl rfl rfl rfl (fun _ => ?_)) | refine V1 rfl rfl rfl ?_) | (refine IsAt ?_; (with_reducible refine T1 ?_)) | (refine IsJ ?_; first | refine J_seq ?_ | refine J_region ?_ | refine J_skip ?_ | refine J_ret ?_ | (refine IsCond ?_; refine K4 rfl ?_)))
  refine J_drawk [blk bm [.int .i64 n, .slice a os.length cap] 33] (fun H hl => hl.pick (is := [6]) rfl) [1, 0, 1, 0, 1, 0, 0, 0, 0, 0, 2, 0, 2, 0, 5, 2, 2, 0, 0, 0, 2, 0, 5, 2, 0, 0, 0] [0, 1, 2, 3, 4, 5, 6, 7, 8, 9, 11, 14, 10, 12, 13, 15, 16, 17, 18, 19, 22, 20, 21, 23, 24, 25, 26] (by kernel_rfl) (by kernel_rfl) ?_
  repeat' (refine IsX ?_; first | (refine JX_nil ?_; refine At_np ?_) | (refine JX_op rfl ?_; refine XsO ?_; first | (refine XsMove ?_; first | refine XM1 rfl rfl rfl rfl ?_ | refine XM4 rfl rfl rfl rfl ?_) | (refine XsBin ?_; first | refine XB7 rfl rfl rfl rfl rfl rfl ?_ | refine XB9 rfl rfl rfl rfl rfl rfl rfl rfl ?_) | (refine XsLoad ?_; first | refine XL1k rfl rfl rfl rfl rfl ?_ | refine XL2k rfl rfl rfl rfl rfl rfl ?_ | refine XL1 rfl rfl rfl rfl rfl ?_) | refine XV1 rfl rfl rfl rfl ?_))
  refine JX_lk rfl rfl (OL_call [1, 1, 1] rfl rfl rfl (heapWords hwl hnb) rfl) rfl rfl ?_ ?_
  · rintro _ _ ⟨_, ⟨_, _, _, rfl, rfl⟩, rfl⟩ H hl
    exact hl.pick (is := [7]) rfl
  rintro _ _ ⟨_, ⟨wa2, wc2, hwn2, rfl, rfl⟩, rfl⟩ ⟨w1, hw1⟩
  obtain ⟨_, _, hwc2⟩ := row_len hw1 (.head _)
  clear hw1
  repeat' (refine IsX ?_; first | (refine JX_nil ?_; refine At_np ?_) | (refine JX_op rfl ?_; refine XsO ?_; first | (refine XsMove ?_; first | refine XM1 rfl rfl rfl rfl ?_ | refine XM4 rfl rfl rfl rfl ?_) | (refine XsBin ?_; first | refine XB7 rfl rfl rfl rfl rfl rfl ?_ | refine XB9 rfl rfl rfl rfl rfl rfl rfl rfl ?_) | (refine XsLoad ?_; first | refine XL1k rfl rfl rfl rfl rfl ?_ | refine XL2k rfl rfl rfl rfl rfl rfl ?_ | refine XL1 rfl rfl rfl rfl rfl ?_) | refine XV1 rfl rfl rfl rfl ?_))
  refine JX_lk rfl rfl (OL_call [1, 1, 1] rfl rfl rfl heapTop rfl) rfl rfl ?_ ?_
  · rintro _ _ ⟨_, ⟨rfl, rfl⟩, rfl⟩ H hl
    exact hl.pick (is := [7]) rfl
  rintro _ _ ⟨_, ⟨rfl, rfl⟩, rfl⟩ _
  refine JX_val rfl rfl (OV_slice (m := 0) (n := (T : Int)) rfl rfl rfl rfl rfl rfl rfl (by omega) (by omega) (by omega) (p' := wa2) ?_) rfl rfl ?_
  · split
    · rfl
    · exact map_add0 wa2
  rw [show (T : Int).toNat - (0 : Int).toNat = T by omega]
  refine JX_lk rfl rfl (OL_call [8, 8] rfl rfl rfl (Words_ref n hc (by omega) (by omega)) rfl) rfl rfl ?_ ?_
  · rintro _ _ ⟨_, ⟨_, _, _, rfl, rfl⟩, rfl⟩ H hl
    exact hl.pick (is := [10]) rfl
  rintro _ _ ⟨_, ⟨wa3, wc3, hwn3, rfl, rfl⟩, rfl⟩ _
  have hR1 : Reads (row 3 1 wa2 n wc2 (intsV ws)) 1 T wa2 (wc2 - 0) (intsV (ws.take T)) := by
    have h1 : Reads (row 3 1 wa2 n wc2 (intsV ws)) 1 n wa2 wc2 (intsV ws) := Reads.row (by simp; omega) hwn2
    refine ⟨by simp; omega, fun e => by have := hwn2 e; omega, fun W l w hs hm i hi => ?_⟩
    obtain ⟨b, o, e, hc⟩ := h1.cell W l w hs hm i (by omega)
    refine ⟨b, o, e, hc.trans ?_⟩
    rw [List.getElem?_map, List.getElem?_map, List.getElem?_take_of_lt (by omega)]
  have hR2 : Reads (rowz 3 1 wa3 T wc3 (intsV (ws.take T))) 1 T wa3 wc3 (intsV (ws.take T)) := Reads.rowz (by simp; omega) hwn3
  have hints := ints_spec (xs := ws.take T) (ys := ws.take T) (l0 := [row 3 1 wa2 n wc2 (intsV ws), rowz 3 1 wa3 T wc3 (intsV (ws.take T))]) (by rw [hxl]; exact hR1) (by rw [hxl]; exact hR2) (.head _) (.tail _ (.head _)) (by omega) (by omega)
  rw [hxl, decide_eq_true (rfl : ws.take T = ws.take T)] at hints
  refine JX_lk rfl rfl (OL_call [6, 0] rfl rfl rfl hints rfl) rfl rfl ?_ ?_
  · rintro _ _ ⟨_, ⟨rfl, rfl⟩, rfl⟩ H hl
    exact hl.pick (is := [10]) rfl
  rintro _ _ ⟨_, ⟨rfl, rfl⟩, rfl⟩ _
  repeat' (refine IsX ?_; first | (refine JX_nil ?_; refine At_np ?_) | (refine JX_op rfl ?_; refine XsO ?_; first | (refine XsMove ?_; first | refine XM1 rfl rfl rfl rfl ?_ | refine XM4 rfl rfl rfl rfl ?_) | (refine XsBin ?_; first | refine XB7 rfl rfl rfl rfl rfl rfl ?_ | refine XB9 rfl rfl rfl rfl rfl rfl rfl rfl ?_) | (refine XsLoad ?_; first | refine XL1k rfl rfl rfl rfl rfl ?_ | refine XL2k rfl rfl rfl rfl rfl rfl ?_ | refine XL1 rfl rfl rfl rfl rfl ?_) | refine XV1 rfl rfl rfl rfl ?_))
  refine JX_lk rfl rfl (OL_call [4, 4, 4] rfl rfl rfl (Check_spec h) rfl) rfl rfl ?_ ?_
  · rintro _ _ ⟨_, ⟨_, _, rfl, rfl⟩, rfl⟩ H hl
    exact hl.pick (is := [10]) rfl
  rintro _ _ ⟨_, ⟨t, ht, rfl, rfl⟩, rfl⟩ _
  cases t with
  | true =>
    repeat' (refine IsX ?_; first | (refine JX_nil ?_; refine At_np ?_) | (refine JX_op rfl ?_; refine XsO ?_; first | (refine XsMove ?_; first | refine XM1 rfl rfl rfl rfl ?_ | refine XM4 rfl rfl rfl rfl ?_) | (refine XsBin ?_; first | refine XB7 rfl rfl rfl rfl rfl rfl ?_ | refine XB9 rfl rfl rfl rfl rfl rfl rfl rfl ?_) | (refine XsLoad ?_; first | refine XL1k rfl rfl rfl rfl rfl ?_ | refine XL2k rfl rfl rfl rfl rfl rfl ?_ | refine XL1 rfl rfl rfl rfl rfl ?_) | refine XV1 rfl rfl rfl rfl ?_))
    refine JX_lk rfl rfl (OL_call [5, 5] rfl rfl rfl (Check_ref n h hc) rfl) rfl rfl ?_ ?_
    · rintro _ _ ⟨_, ⟨_, _, rfl, rfl⟩, rfl⟩ H hl
      exact hl.pick (is := [10]) rfl
    rintro _ _ ⟨_, ⟨t', ht', rfl, rfl⟩, rfl⟩ _
    obtain rfl : t' = true := ht'.2 (ht.1 rfl)
    repeat' (refine IsX ?_; first | (refine JX_nil ?_; refine At_np ?_) | (refine JX_op rfl ?_; refine XsO ?_; first | (refine XsMove ?_; first | refine XM1 rfl rfl rfl rfl ?_ | refine XM4 rfl rfl rfl rfl ?_) | (refine XsBin ?_; first | refine XB7 rfl rfl rfl rfl rfl rfl ?_ | refine XB9 rfl rfl rfl rfl rfl rfl rfl rfl ?_) | (refine XsLoad ?_; first | refine XL1k rfl rfl rfl rfl rfl ?_ | refine XL2k rfl rfl rfl rfl rfl rfl ?_ | refine XL1 rfl rfl rfl rfl rfl ?_) | refine XV1 rfl rfl rfl rfl ?_))
    repeat' (first | (refine IsO ?_; first | refine JO_nil ?_ | (refine IsStore ?_; refine S1 rfl rfl rfl rfl rfl rfl rfl (fun _ => ?_)) | (refine IsBox ?_; refine N1 rfl rfl rfl rfl (fun _ => ?_)) | (refine IsAlloc ?_; refine N2 rfl rfl rfl rfl (fun _ => ?_)) | refine V1 rfl rfl rfl ?_) | (refine IsAt ?_; (with_reducible refine T1 ?_)) | (refine IsJ ?_; first | refine J_seq ?_ | refine J_region ?_ | refine J_skip ?_ | refine J_ret ?_ | (refine IsCond ?_; refine K4 rfl ?_)))
    exact At_ret rfl rfl (.tmp rfl .nil) rfl (is := [2, 2, 2, 0, 0]) rfl ⟨rfl, rfl⟩
  | false =>
    repeat' (refine IsX ?_; first | (refine JX_nil ?_; refine At_np ?_) | (refine JX_op rfl ?_; refine XsO ?_; first | (refine XsMove ?_; first | refine XM1 rfl rfl rfl rfl ?_ | refine XM4 rfl rfl rfl rfl ?_) | (refine XsBin ?_; first | refine XB7 rfl rfl rfl rfl rfl rfl ?_ | refine XB9 rfl rfl rfl rfl rfl rfl rfl rfl ?_) | (refine XsLoad ?_; first | refine XL1k rfl rfl rfl rfl rfl ?_ | refine XL2k rfl rfl rfl rfl rfl rfl ?_ | refine XL1 rfl rfl rfl rfl rfl ?_) | refine XV1 rfl rfl rfl rfl ?_))
    refine JX_lk rfl rfl (OL_call [5, 5] rfl rfl rfl (Check_ref n h hc) rfl) rfl rfl ?_ ?_
    · rintro _ _ ⟨_, ⟨_, _, rfl, rfl⟩, rfl⟩ H hl
      exact hl.pick (is := [10]) rfl
    rintro _ _ ⟨_, ⟨t', ht', rfl, rfl⟩, rfl⟩ _
    obtain rfl : t' = false := by
      cases t' with
      | false => rfl
      | true => exact absurd (ht.2 (ht'.1 rfl)) (by decide)
    repeat' (refine IsX ?_; first | (refine JX_nil ?_; refine At_np ?_) | (refine JX_op rfl ?_; refine XsO ?_; first | (refine XsMove ?_; first | refine XM1 rfl rfl rfl rfl ?_ | refine XM4 rfl rfl rfl rfl ?_) | (refine XsBin ?_; first | refine XB7 rfl rfl rfl rfl rfl rfl ?_ | refine XB9 rfl rfl rfl rfl rfl rfl rfl rfl ?_) | (refine XsLoad ?_; first | refine XL1k rfl rfl rfl rfl rfl ?_ | refine XL2k rfl rfl rfl rfl rfl rfl ?_ | refine XL1 rfl rfl rfl rfl rfl ?_) | refine XV1 rfl rfl rfl rfl ?_))
    repeat' (first | (refine IsO ?_; first | refine JO_nil ?_ | (refine IsStore ?_; refine S1 rfl rfl rfl rfl rfl rfl rfl (fun _ => ?_)) | (refine IsBox ?_; refine N1 rfl rfl rfl rfl (fun _ => ?_)) | (refine IsAlloc ?_; refine N2 rfl rfl rfl rfl (fun _ => ?_)) | refine V1 rfl rfl rfl ?_) | (refine IsAt ?_; (with_reducible refine T1 ?_)) | (refine IsJ ?_; first | refine J_seq ?_ | refine J_region ?_ | refine J_skip ?_ | refine J_ret ?_ | (refine IsCond ?_; refine K4 rfl ?_)))
    exact At_ret rfl rfl (.tmp rfl .nil) rfl (is := [2, 2, 2, 0, 0]) rfl ⟨rfl, rfl⟩
end ops
end Go.Proofs.Ytahfnbpbdnmggaa
/-
  Our own: the document's heaps (besomref01): Of.
-/
set_option linter.unusedVariables false
set_option linter.unusedSimpArgs false
namespace Go.Proofs.Ytahfnbpbdnmggaa
open Go.Sep
theorem Ch.snoc {ws : List Int} {os : List RO} {i T : Nat} {o : RO} (h : Ch ws i os T) (h1 : o.i = T) (h2 : goodB o.k o.ws.length o.p = true) (h3 : ws[T]? = some (packI o.k o.ws.length o.p)) (h4 : ∀ j : Nat, j < o.ws.length → ws[T + 1 + j]? = o.ws[j]?) : Ch ws i (os ++ [o]) (T + 1 + o.ws.length) :=
  Ch.app.2 ⟨T, h, h1, h2, h3, h4, rfl⟩
theorem RW_nil {l : List HP} {H : PH} (h : Stars l H) : Stars (RW [] :: l) H := Stars.shut (ps := []) h
section ops
variable {R : HP} {a : Option Addr} {cap : Nat}
end ops
end Go.Proofs.Ytahfnbpbdnmggaa
