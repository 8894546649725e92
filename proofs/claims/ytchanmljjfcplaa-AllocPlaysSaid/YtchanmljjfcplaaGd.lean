/-
  Our own: the document's heaps (besomref01): Of.
-/
import Derived.Test.YtchanmljjfcplaaGc
set_option linter.unusedVariables false
set_option linter.unusedSimpArgs false
namespace Go.Proofs.Ytchanmljjfcplaa
open Go.Sep
theorem Ch.snoc {ws : List Int} {os : List RO} {i T : Nat} {o : RO} (h : Ch ws i os T) (h1 : o.i = T) (h2 : goodB o.k o.ws.length o.p = true) (h3 : ws[T]? = some (packI o.k o.ws.length o.p)) (h4 : ∀ j : Nat, j < o.ws.length → ws[T + 1 + j]? = o.ws[j]?) : Ch ws i (os ++ [o]) (T + 1 + o.ws.length) :=
  Ch.app.2 ⟨T, h, h1, h2, h3, h4, rfl⟩
theorem RW_nil {l : List HP} {H : PH} (h : Stars l H) : Stars (RW [] :: l) H := Stars.shut (ps := []) h
theorem map_addn {b o m cap k : Nat} (h : m ≤ cap) (hk : k ≤ m) : ∃ o', (if cap = k then some (⟨b, o, none⟩ : Addr) else (some (⟨b, o, none⟩ : Addr)).map (·.add (k * 1))) = some ⟨b, o', none⟩ ∧ (o' = o + k ∨ m = k) := by
  by_cases e : cap = k
  · exact ⟨o, by rw [if_pos e], .inr (by omega)⟩
  · refine ⟨o + k, ?_, .inl rfl⟩
    rw [if_neg e, Option.map_some, addr_add]
    congr 2; omega
section ops
variable {R : HP} {a : Option Addr} {cap : Nat}
end ops
end Go.Proofs.Ytchanmljjfcplaa
