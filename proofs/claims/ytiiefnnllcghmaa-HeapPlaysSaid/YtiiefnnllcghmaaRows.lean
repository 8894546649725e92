/-
  No cell of these rows narrows 'for every input' (looked for: loops, veiled, ifaces, maps, wideKeys, modest, calm, conditions, laid).
  DERIVED. THE GIVEN ROWS OF THIS SEAT. 11 by the template 'for every input the law returns true; each argument reads behind the call as it read before'; 0 by the template 'total and deterministic' (their statements: YtiiefnnllcghmaaTotals.lean).
  GIVEN WITH THE SEED: the statements are not yours to turn. If you find one false, say at which input.
  Laid BY PROGRAM, IN A SANDBOX (cutbox-rows.mjs): the forced cells as the released guide's own fill.sh prints them over the translation 9e917e9eca2fbe47… (all of the seat's roots in one cut). By AI agents, Wed Nov 11 2026. No macro, syntax, notation, axiom, sorry.
-/
import Derived.Test.YtiiefnnllcghmaaChecked
import GoSem.Claim
import GoSem.ClaimJoined
import GoSem.ClaimMapViews
import Derived.JoinedTies
import Derived.KernelRfl
namespace Go.Proofs.Ytiiefnnllcghmaa
/- THE CELL 'sum', in the pinned program and in every row, IS THE sha256 OF THE DUMP (.gsa) THAT YtiiefnnllcghmaaProg.lean LOADS. Nothing in Lean hashes anything: it is a label: what it is worth is what the hold of that sum in a sandbox is worth. -/
noncomputable def Try.pinned : Pinned := { name := "ytiiefnnllcghmaa", sum := "9e917e9eca2fbe47e899886b06b0ea988408c7fe7a38a5709d3d2c7a8efd7910", checked := Try.checked }
namespace Rows
def none {H : Type} : Left H := { results := [], args := [] }

/-- 'besomlaw01.HeapOrders': WHATEVER THE INPUT: true; the input reads as it did. -/
def heapOrdersSpec : ChangeSpec := { name := "heapOrders", fn := fun _ => fun
  | [d1, d2] => { results := [.lit (.bool true)], args := [d1, d2] }
  | _ => none }
def heapOrdersRow : OpenClaim := { program := "ytiiefnnllcghmaa", sum := "9e917e9eca2fbe47e899886b06b0ea988408c7fe7a38a5709d3d2c7a8efd7910", func := "besom/besomlaw01.HeapOrders", spec := "heapOrders", apart := false }
def HeapOrdersSaid : Prop := heapOrdersRow.holds Try.pinned (OpenSpec.ofChange heapOrdersSpec)

/-- ITS FALSE NEIGHBOUR: 'it returns false'. Refute it at one input. -/
def heapOrdersWrong : ChangeSpec := { name := "heapOrders", fn := fun _ => fun
  | [d1, d2] => { results := [.lit (.bool false)], args := [d1, d2] }
  | _ => none }
def HeapOrdersWrongFalsely : Prop := heapOrdersRow.holds Try.pinned (OpenSpec.ofChange heapOrdersWrong)

/-- 'besomlaw01.HeapHeads': WHATEVER THE INPUT: true; the input reads as it did. -/
def heapHeadsSpec : ChangeSpec := { name := "heapHeads", fn := fun _ => fun
  | [d] => { results := [.lit (.bool true)], args := [d] }
  | _ => none }
def heapHeadsRow : OpenClaim := { program := "ytiiefnnllcghmaa", sum := "9e917e9eca2fbe47e899886b06b0ea988408c7fe7a38a5709d3d2c7a8efd7910", func := "besom/besomlaw01.HeapHeads", spec := "heapHeads", apart := false }
def HeapHeadsSaid : Prop := heapHeadsRow.holds Try.pinned (OpenSpec.ofChange heapHeadsSpec)

/-- ITS FALSE NEIGHBOUR: 'it returns false'. Refute it at one input. -/
def heapHeadsWrong : ChangeSpec := { name := "heapHeads", fn := fun _ => fun
  | [d] => { results := [.lit (.bool false)], args := [d] }
  | _ => none }
def HeapHeadsWrongFalsely : Prop := heapHeadsRow.holds Try.pinned (OpenSpec.ofChange heapHeadsWrong)

/-- 'besomlaw01.HeapWords': WHATEVER THE INPUT: true; the input reads as it did. -/
def heapWordsSpec : ChangeSpec := { name := "heapWords", fn := fun _ => fun
  | [d] => { results := [.lit (.bool true)], args := [d] }
  | _ => none }
def heapWordsRow : OpenClaim := { program := "ytiiefnnllcghmaa", sum := "9e917e9eca2fbe47e899886b06b0ea988408c7fe7a38a5709d3d2c7a8efd7910", func := "besom/besomlaw01.HeapWords", spec := "heapWords", apart := false }
def HeapWordsSaid : Prop := heapWordsRow.holds Try.pinned (OpenSpec.ofChange heapWordsSpec)

/-- ITS FALSE NEIGHBOUR: 'it returns false'. Refute it at one input. -/
def heapWordsWrong : ChangeSpec := { name := "heapWords", fn := fun _ => fun
  | [d] => { results := [.lit (.bool false)], args := [d] }
  | _ => none }
def HeapWordsWrongFalsely : Prop := heapWordsRow.holds Try.pinned (OpenSpec.ofChange heapWordsWrong)

/-- 'besomlaw01.HeapWalks': WHATEVER THE INPUT: true; the input reads as it did. -/
def heapWalksSpec : ChangeSpec := { name := "heapWalks", fn := fun _ => fun
  | [d1, d2] => { results := [.lit (.bool true)], args := [d1, d2] }
  | _ => none }
def heapWalksRow : OpenClaim := { program := "ytiiefnnllcghmaa", sum := "9e917e9eca2fbe47e899886b06b0ea988408c7fe7a38a5709d3d2c7a8efd7910", func := "besom/besomlaw01.HeapWalks", spec := "heapWalks", unfollowed := true, recurses := true, apart := false }
def HeapWalksSaid : Prop := heapWalksRow.holds Try.pinned (OpenSpec.ofChange heapWalksSpec)

/-- ITS FALSE NEIGHBOUR: 'it returns false'. Refute it at one input. -/
def heapWalksWrong : ChangeSpec := { name := "heapWalks", fn := fun _ => fun
  | [d1, d2] => { results := [.lit (.bool false)], args := [d1, d2] }
  | _ => none }
def HeapWalksWrongFalsely : Prop := heapWalksRow.holds Try.pinned (OpenSpec.ofChange heapWalksWrong)

/-- 'besomlaw01.HeapTails': WHATEVER THE INPUT: true; the input reads as it did. -/
def heapTailsSpec : ChangeSpec := { name := "heapTails", fn := fun _ => fun
  | [d1, d2, d3] => { results := [.lit (.bool true)], args := [d1, d2, d3] }
  | _ => none }
def heapTailsRow : OpenClaim := { program := "ytiiefnnllcghmaa", sum := "9e917e9eca2fbe47e899886b06b0ea988408c7fe7a38a5709d3d2c7a8efd7910", func := "besom/besomlaw01.HeapTails", spec := "heapTails", apart := false }
def HeapTailsSaid : Prop := heapTailsRow.holds Try.pinned (OpenSpec.ofChange heapTailsSpec)

/-- ITS FALSE NEIGHBOUR: 'it returns false'. Refute it at one input. -/
def heapTailsWrong : ChangeSpec := { name := "heapTails", fn := fun _ => fun
  | [d1, d2, d3] => { results := [.lit (.bool false)], args := [d1, d2, d3] }
  | _ => none }
def HeapTailsWrongFalsely : Prop := heapTailsRow.holds Try.pinned (OpenSpec.ofChange heapTailsWrong)

/-- 'besomlaw01.HeapFulls': WHATEVER THE INPUT: true; the input reads as it did. -/
def heapFullsSpec : ChangeSpec := { name := "heapFulls", fn := fun _ => fun
  | [d1, d2] => { results := [.lit (.bool true)], args := [d1, d2] }
  | _ => none }
def heapFullsRow : OpenClaim := { program := "ytiiefnnllcghmaa", sum := "9e917e9eca2fbe47e899886b06b0ea988408c7fe7a38a5709d3d2c7a8efd7910", func := "besom/besomlaw01.HeapFulls", spec := "heapFulls", unfollowed := true, recurses := true, apart := false }
def HeapFullsSaid : Prop := heapFullsRow.holds Try.pinned (OpenSpec.ofChange heapFullsSpec)

/-- ITS FALSE NEIGHBOUR: 'it returns false'. Refute it at one input. -/
def heapFullsWrong : ChangeSpec := { name := "heapFulls", fn := fun _ => fun
  | [d1, d2] => { results := [.lit (.bool false)], args := [d1, d2] }
  | _ => none }
def HeapFullsWrongFalsely : Prop := heapFullsRow.holds Try.pinned (OpenSpec.ofChange heapFullsWrong)

/-- 'besomlaw01.HeapOfs': WHATEVER THE INPUT: true; the input reads as it did. -/
def heapOfsSpec : ChangeSpec := { name := "heapOfs", fn := fun _ => fun
  | [d1, d2] => { results := [.lit (.bool true)], args := [d1, d2] }
  | _ => none }
def heapOfsRow : OpenClaim := { program := "ytiiefnnllcghmaa", sum := "9e917e9eca2fbe47e899886b06b0ea988408c7fe7a38a5709d3d2c7a8efd7910", func := "besom/besomlaw01.HeapOfs", spec := "heapOfs", unfollowed := true, recurses := true, apart := false }
def HeapOfsSaid : Prop := heapOfsRow.holds Try.pinned (OpenSpec.ofChange heapOfsSpec)

/-- ITS FALSE NEIGHBOUR: 'it returns false'. Refute it at one input. -/
def heapOfsWrong : ChangeSpec := { name := "heapOfs", fn := fun _ => fun
  | [d1, d2] => { results := [.lit (.bool false)], args := [d1, d2] }
  | _ => none }
def HeapOfsWrongFalsely : Prop := heapOfsRow.holds Try.pinned (OpenSpec.ofChange heapOfsWrong)

/-- 'besomlaw01.HeapSplits': WHATEVER THE INPUT: true; the input reads as it did. -/
def heapSplitsSpec : ChangeSpec := { name := "heapSplits", fn := fun _ => fun
  | [d1, d2, d3] => { results := [.lit (.bool true)], args := [d1, d2, d3] }
  | _ => none }
def heapSplitsRow : OpenClaim := { program := "ytiiefnnllcghmaa", sum := "9e917e9eca2fbe47e899886b06b0ea988408c7fe7a38a5709d3d2c7a8efd7910", func := "besom/besomlaw01.HeapSplits", spec := "heapSplits", unfollowed := true, recurses := true, apart := false }
def HeapSplitsSaid : Prop := heapSplitsRow.holds Try.pinned (OpenSpec.ofChange heapSplitsSpec)

/-- ITS FALSE NEIGHBOUR: 'it returns false'. Refute it at one input. -/
def heapSplitsWrong : ChangeSpec := { name := "heapSplits", fn := fun _ => fun
  | [d1, d2, d3] => { results := [.lit (.bool false)], args := [d1, d2, d3] }
  | _ => none }
def HeapSplitsWrongFalsely : Prop := heapSplitsRow.holds Try.pinned (OpenSpec.ofChange heapSplitsWrong)

/-- 'besomlaw01.HeapPlays': WHATEVER THE INPUT: true; the input reads as it did. -/
def heapPlaysSpec : ChangeSpec := { name := "heapPlays", fn := fun _ => fun
  | [d1, d2] => { results := [.lit (.bool true)], args := [d1, d2] }
  | _ => none }
def heapPlaysRow : OpenClaim := { program := "ytiiefnnllcghmaa", sum := "9e917e9eca2fbe47e899886b06b0ea988408c7fe7a38a5709d3d2c7a8efd7910", func := "besom/besomlaw01.HeapPlays", spec := "heapPlays", unfollowed := true, recurses := true, apart := false }
def HeapPlaysSaid : Prop := heapPlaysRow.holds Try.pinned (OpenSpec.ofChange heapPlaysSpec)

/-- ITS FALSE NEIGHBOUR: 'it returns false'. Refute it at one input. -/
def heapPlaysWrong : ChangeSpec := { name := "heapPlays", fn := fun _ => fun
  | [d1, d2] => { results := [.lit (.bool false)], args := [d1, d2] }
  | _ => none }
def HeapPlaysWrongFalsely : Prop := heapPlaysRow.holds Try.pinned (OpenSpec.ofChange heapPlaysWrong)

/-- 'besomlaw01.HeapStays': WHATEVER THE INPUT: true; the input reads as it did. -/
def heapStaysSpec : ChangeSpec := { name := "heapStays", fn := fun _ => fun
  | [d1, d2] => { results := [.lit (.bool true)], args := [d1, d2] }
  | _ => none }
def heapStaysRow : OpenClaim := { program := "ytiiefnnllcghmaa", sum := "9e917e9eca2fbe47e899886b06b0ea988408c7fe7a38a5709d3d2c7a8efd7910", func := "besom/besomlaw01.HeapStays", spec := "heapStays", apart := false }
def HeapStaysSaid : Prop := heapStaysRow.holds Try.pinned (OpenSpec.ofChange heapStaysSpec)

/-- ITS FALSE NEIGHBOUR: 'it returns false'. Refute it at one input. -/
def heapStaysWrong : ChangeSpec := { name := "heapStays", fn := fun _ => fun
  | [d1, d2] => { results := [.lit (.bool false)], args := [d1, d2] }
  | _ => none }
def HeapStaysWrongFalsely : Prop := heapStaysRow.holds Try.pinned (OpenSpec.ofChange heapStaysWrong)

/-- 'besomlaw01.HeapRefs': WHATEVER THE INPUT: true; the input reads as it did. -/
def heapRefsSpec : ChangeSpec := { name := "heapRefs", fn := fun _ => fun
  | [d1, d2] => { results := [.lit (.bool true)], args := [d1, d2] }
  | _ => none }
def heapRefsRow : OpenClaim := { program := "ytiiefnnllcghmaa", sum := "9e917e9eca2fbe47e899886b06b0ea988408c7fe7a38a5709d3d2c7a8efd7910", func := "besom/besomlaw01.HeapRefs", spec := "heapRefs", unfollowed := true, recurses := true, apart := false }
def HeapRefsSaid : Prop := heapRefsRow.holds Try.pinned (OpenSpec.ofChange heapRefsSpec)

/-- ITS FALSE NEIGHBOUR: 'it returns false'. Refute it at one input. -/
def heapRefsWrong : ChangeSpec := { name := "heapRefs", fn := fun _ => fun
  | [d1, d2] => { results := [.lit (.bool false)], args := [d1, d2] }
  | _ => none }
def HeapRefsWrongFalsely : Prop := heapRefsRow.holds Try.pinned (OpenSpec.ofChange heapRefsWrong)

/- THE SECOND FORM. 'bulk': how many values and letters a reading holds, each counted each time it is reached (what is shared counts as often as it is met; a slice's spare places count too). A statement '..UptoSaid' is the law's where the arguments, and the package variables that the reading takes, are together of bulk at most 1048576: NARROWER than '..Said'. Prove '..Said' where nothing that the law and all that it calls make is longer than what came in: it says more and counts as full. Else prove '..UptoSaid'. A law counts once. -/
mutual
def uptoBulk {H : Type} : DataW H → Nat
  | .lit (.string bytes) => bytes.length + 1
  | .lit _ => 1
  | .nil => 1
  | .ptr d => uptoBulk d + 1
  | .slice elems spare => uptoBulkAll elems + uptoBulkAll spare + 1
  | .agg parts => uptoBulkAll parts + 1
  | .iface _ d => uptoBulk d + 1
  | .map entries => uptoBulkEntries entries + 1
  | .held _ => 1
def uptoBulkAll {H : Type} : List (DataW H) → Nat
  | [] => 0
  | d :: r => uptoBulk d + uptoBulkAll r
def uptoBulkEntries {H : Type} : List (Lit × DataW H) → Nat
  | [] => 0
  | x :: r => uptoBulkEntry x + uptoBulkEntries r
def uptoBulkEntry {H : Type} : Lit × DataW H → Nat
  | (.string bytes, d) => bytes.length + uptoBulk d + 1
  | (_, d) => uptoBulk d + 1
 end
def uptoSmall : (H : Type) → List (DataW H) → Bool := fun _ ds => decide (uptoBulkAll ds ≤ 1048576)
def OpenSpec.upto (s : _root_.Go.ChangeSpec) : _root_.Go.OpenSpec := { _root_.Go.OpenSpec.ofChange s with cond := some uptoSmall }

/-- 'besomlaw01.HeapOrders', WHERE WHAT IT READS IS OF BULK AT MOST 1048576: true; the input reads as it did. -/
def heapOrdersUptoRow : OpenClaim := { program := "ytiiefnnllcghmaa", sum := "9e917e9eca2fbe47e899886b06b0ea988408c7fe7a38a5709d3d2c7a8efd7910", func := "besom/besomlaw01.HeapOrders", spec := "heapOrders", apart := false, narrowed := true }
def HeapOrdersUptoSaid : Prop := heapOrdersUptoRow.holds Try.pinned (OpenSpec.upto heapOrdersSpec)

/-- 'besomlaw01.HeapHeads', WHERE WHAT IT READS IS OF BULK AT MOST 1048576: true; the input reads as it did. -/
def heapHeadsUptoRow : OpenClaim := { program := "ytiiefnnllcghmaa", sum := "9e917e9eca2fbe47e899886b06b0ea988408c7fe7a38a5709d3d2c7a8efd7910", func := "besom/besomlaw01.HeapHeads", spec := "heapHeads", apart := false, narrowed := true }
def HeapHeadsUptoSaid : Prop := heapHeadsUptoRow.holds Try.pinned (OpenSpec.upto heapHeadsSpec)

/-- 'besomlaw01.HeapWords', WHERE WHAT IT READS IS OF BULK AT MOST 1048576: true; the input reads as it did. -/
def heapWordsUptoRow : OpenClaim := { program := "ytiiefnnllcghmaa", sum := "9e917e9eca2fbe47e899886b06b0ea988408c7fe7a38a5709d3d2c7a8efd7910", func := "besom/besomlaw01.HeapWords", spec := "heapWords", apart := false, narrowed := true }
def HeapWordsUptoSaid : Prop := heapWordsUptoRow.holds Try.pinned (OpenSpec.upto heapWordsSpec)

/-- 'besomlaw01.HeapWalks', WHERE WHAT IT READS IS OF BULK AT MOST 1048576: true; the input reads as it did. -/
def heapWalksUptoRow : OpenClaim := { program := "ytiiefnnllcghmaa", sum := "9e917e9eca2fbe47e899886b06b0ea988408c7fe7a38a5709d3d2c7a8efd7910", func := "besom/besomlaw01.HeapWalks", spec := "heapWalks", unfollowed := true, recurses := true, apart := false, narrowed := true }
def HeapWalksUptoSaid : Prop := heapWalksUptoRow.holds Try.pinned (OpenSpec.upto heapWalksSpec)

/-- 'besomlaw01.HeapTails', WHERE WHAT IT READS IS OF BULK AT MOST 1048576: true; the input reads as it did. -/
def heapTailsUptoRow : OpenClaim := { program := "ytiiefnnllcghmaa", sum := "9e917e9eca2fbe47e899886b06b0ea988408c7fe7a38a5709d3d2c7a8efd7910", func := "besom/besomlaw01.HeapTails", spec := "heapTails", apart := false, narrowed := true }
def HeapTailsUptoSaid : Prop := heapTailsUptoRow.holds Try.pinned (OpenSpec.upto heapTailsSpec)

/-- 'besomlaw01.HeapFulls', WHERE WHAT IT READS IS OF BULK AT MOST 1048576: true; the input reads as it did. -/
def heapFullsUptoRow : OpenClaim := { program := "ytiiefnnllcghmaa", sum := "9e917e9eca2fbe47e899886b06b0ea988408c7fe7a38a5709d3d2c7a8efd7910", func := "besom/besomlaw01.HeapFulls", spec := "heapFulls", unfollowed := true, recurses := true, apart := false, narrowed := true }
def HeapFullsUptoSaid : Prop := heapFullsUptoRow.holds Try.pinned (OpenSpec.upto heapFullsSpec)

/-- 'besomlaw01.HeapOfs', WHERE WHAT IT READS IS OF BULK AT MOST 1048576: true; the input reads as it did. -/
def heapOfsUptoRow : OpenClaim := { program := "ytiiefnnllcghmaa", sum := "9e917e9eca2fbe47e899886b06b0ea988408c7fe7a38a5709d3d2c7a8efd7910", func := "besom/besomlaw01.HeapOfs", spec := "heapOfs", unfollowed := true, recurses := true, apart := false, narrowed := true }
def HeapOfsUptoSaid : Prop := heapOfsUptoRow.holds Try.pinned (OpenSpec.upto heapOfsSpec)

/-- 'besomlaw01.HeapSplits', WHERE WHAT IT READS IS OF BULK AT MOST 1048576: true; the input reads as it did. -/
def heapSplitsUptoRow : OpenClaim := { program := "ytiiefnnllcghmaa", sum := "9e917e9eca2fbe47e899886b06b0ea988408c7fe7a38a5709d3d2c7a8efd7910", func := "besom/besomlaw01.HeapSplits", spec := "heapSplits", unfollowed := true, recurses := true, apart := false, narrowed := true }
def HeapSplitsUptoSaid : Prop := heapSplitsUptoRow.holds Try.pinned (OpenSpec.upto heapSplitsSpec)

/-- 'besomlaw01.HeapPlays', WHERE WHAT IT READS IS OF BULK AT MOST 1048576: true; the input reads as it did. -/
def heapPlaysUptoRow : OpenClaim := { program := "ytiiefnnllcghmaa", sum := "9e917e9eca2fbe47e899886b06b0ea988408c7fe7a38a5709d3d2c7a8efd7910", func := "besom/besomlaw01.HeapPlays", spec := "heapPlays", unfollowed := true, recurses := true, apart := false, narrowed := true }
def HeapPlaysUptoSaid : Prop := heapPlaysUptoRow.holds Try.pinned (OpenSpec.upto heapPlaysSpec)

/-- 'besomlaw01.HeapStays', WHERE WHAT IT READS IS OF BULK AT MOST 1048576: true; the input reads as it did. -/
def heapStaysUptoRow : OpenClaim := { program := "ytiiefnnllcghmaa", sum := "9e917e9eca2fbe47e899886b06b0ea988408c7fe7a38a5709d3d2c7a8efd7910", func := "besom/besomlaw01.HeapStays", spec := "heapStays", apart := false, narrowed := true }
def HeapStaysUptoSaid : Prop := heapStaysUptoRow.holds Try.pinned (OpenSpec.upto heapStaysSpec)

/-- 'besomlaw01.HeapRefs', WHERE WHAT IT READS IS OF BULK AT MOST 1048576: true; the input reads as it did. -/
def heapRefsUptoRow : OpenClaim := { program := "ytiiefnnllcghmaa", sum := "9e917e9eca2fbe47e899886b06b0ea988408c7fe7a38a5709d3d2c7a8efd7910", func := "besom/besomlaw01.HeapRefs", spec := "heapRefs", unfollowed := true, recurses := true, apart := false, narrowed := true }
def HeapRefsUptoSaid : Prop := heapRefsUptoRow.holds Try.pinned (OpenSpec.upto heapRefsSpec)

end Rows
end Go.Proofs.Ytiiefnnllcghmaa
