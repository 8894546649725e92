/-
  No cell of these rows narrows 'for every input' (looked for: loops, veiled, ifaces, maps, wideKeys, modest, calm, conditions, laid).
  DERIVED. THE GIVEN ROWS OF THIS SEAT. 4 by the template 'for every input the law returns true; each argument reads behind the call as it read before'; 0 by the template 'total and deterministic' (their statements: YtahfnbpbdnmggaaTotals.lean).
  GIVEN WITH THE SEED: the statements are not yours to turn. If you find one false, say at which input.
  Laid BY PROGRAM, IN A SANDBOX (cutbox-rows.mjs): the forced cells as the released guide's own fill.sh prints them over the translation 0167c300001cbb57… (all of the seat's roots in one cut). By AI agents, Wed Nov 11 2026. No macro, syntax, notation, axiom, sorry.
-/
import Derived.Test.YtahfnbpbdnmggaaChecked
import GoSem.Claim
import GoSem.ClaimJoined
import GoSem.ClaimMapViews
import Derived.JoinedTies
import Derived.KernelRfl
namespace Go.Proofs.Ytahfnbpbdnmggaa
/- THE CELL 'sum', in the pinned program and in every row, IS THE sha256 OF THE DUMP (.gsa) THAT YtahfnbpbdnmggaaProg.lean LOADS. Nothing in Lean hashes anything: it is a label: what it is worth is what the hold of that sum in a sandbox is worth. -/
noncomputable def Try.pinned : Pinned := { name := "ytahfnbpbdnmggaa", sum := "0167c300001cbb57e680250f195cdef961740634a29f476cac2c074941853da6", checked := Try.checked }
namespace Rows
def none {H : Type} : Left H := { results := [], args := [] }

/-- 'besomlaw14.SliderNews': WHATEVER THE INPUT: true; the input reads as it did. -/
def sliderNewsSpec : ChangeSpec := { name := "sliderNews", fn := fun _ => fun
  | [d1, d2, d3] => { results := [.lit (.bool true)], args := [d1, d2, d3] }
  | _ => none }
def sliderNewsRow : OpenClaim := { program := "ytahfnbpbdnmggaa", sum := "0167c300001cbb57e680250f195cdef961740634a29f476cac2c074941853da6", func := "besom/besomlaw14.SliderNews", spec := "sliderNews", unfollowed := true, recurses := true, apart := false }
def SliderNewsSaid : Prop := sliderNewsRow.holds Try.pinned (OpenSpec.ofChange sliderNewsSpec)

/-- ITS FALSE NEIGHBOUR: 'it returns false'. Refute it at one input. -/
def sliderNewsWrong : ChangeSpec := { name := "sliderNews", fn := fun _ => fun
  | [d1, d2, d3] => { results := [.lit (.bool false)], args := [d1, d2, d3] }
  | _ => none }
def SliderNewsWrongFalsely : Prop := sliderNewsRow.holds Try.pinned (OpenSpec.ofChange sliderNewsWrong)

/-- 'besomlaw14.SliderSame': WHATEVER THE INPUT: true; the input reads as it did. -/
def sliderSameSpec : ChangeSpec := { name := "sliderSame", fn := fun _ => fun
  | [d1, d2] => { results := [.lit (.bool true)], args := [d1, d2] }
  | _ => none }
def sliderSameRow : OpenClaim := { program := "ytahfnbpbdnmggaa", sum := "0167c300001cbb57e680250f195cdef961740634a29f476cac2c074941853da6", func := "besom/besomlaw14.SliderSame", spec := "sliderSame", unfollowed := true, recurses := true, apart := false }
def SliderSameSaid : Prop := sliderSameRow.holds Try.pinned (OpenSpec.ofChange sliderSameSpec)

/-- ITS FALSE NEIGHBOUR: 'it returns false'. Refute it at one input. -/
def sliderSameWrong : ChangeSpec := { name := "sliderSame", fn := fun _ => fun
  | [d1, d2] => { results := [.lit (.bool false)], args := [d1, d2] }
  | _ => none }
def SliderSameWrongFalsely : Prop := sliderSameRow.holds Try.pinned (OpenSpec.ofChange sliderSameWrong)

/-- 'besomlaw14.SliderWhole': WHATEVER THE INPUT: true; the input reads as it did. -/
def sliderWholeSpec : ChangeSpec := { name := "sliderWhole", fn := fun _ => fun
  | [d1, d2] => { results := [.lit (.bool true)], args := [d1, d2] }
  | _ => none }
def sliderWholeRow : OpenClaim := { program := "ytahfnbpbdnmggaa", sum := "0167c300001cbb57e680250f195cdef961740634a29f476cac2c074941853da6", func := "besom/besomlaw14.SliderWhole", spec := "sliderWhole", unfollowed := true, recurses := true, apart := false }
def SliderWholeSaid : Prop := sliderWholeRow.holds Try.pinned (OpenSpec.ofChange sliderWholeSpec)

/-- ITS FALSE NEIGHBOUR: 'it returns false'. Refute it at one input. -/
def sliderWholeWrong : ChangeSpec := { name := "sliderWhole", fn := fun _ => fun
  | [d1, d2] => { results := [.lit (.bool false)], args := [d1, d2] }
  | _ => none }
def SliderWholeWrongFalsely : Prop := sliderWholeRow.holds Try.pinned (OpenSpec.ofChange sliderWholeWrong)

/-- 'besomlaw14.SliderSlides': WHATEVER THE INPUT: true; the input reads as it did. -/
def sliderSlidesSpec : ChangeSpec := { name := "sliderSlides", fn := fun _ => fun
  | [d1, d2, d3] => { results := [.lit (.bool true)], args := [d1, d2, d3] }
  | _ => none }
def sliderSlidesRow : OpenClaim := { program := "ytahfnbpbdnmggaa", sum := "0167c300001cbb57e680250f195cdef961740634a29f476cac2c074941853da6", func := "besom/besomlaw14.SliderSlides", spec := "sliderSlides", unfollowed := true, recurses := true, apart := false }
def SliderSlidesSaid : Prop := sliderSlidesRow.holds Try.pinned (OpenSpec.ofChange sliderSlidesSpec)

/-- ITS FALSE NEIGHBOUR: 'it returns false'. Refute it at one input. -/
def sliderSlidesWrong : ChangeSpec := { name := "sliderSlides", fn := fun _ => fun
  | [d1, d2, d3] => { results := [.lit (.bool false)], args := [d1, d2, d3] }
  | _ => none }
def SliderSlidesWrongFalsely : Prop := sliderSlidesRow.holds Try.pinned (OpenSpec.ofChange sliderSlidesWrong)

/- THE SECOND FORM. 'bulk': how many values and letters a reading holds, each counted each time it is reached (what is shared counts as often as it is met; a slice's spare places count too). A statement '..UptoSaid' is the law's where the arguments, and the package variables that the reading takes, are together of bulk at most 1048576: NARROWER than '..Said'. Prove '..Said' where nothing that the law and all that it calls make is longer than what came in: it says more and counts as full. Else prove '..UptoSaid'. A law counts once. -/
mutual
def uptoBulk {H : Type} : DataW H → Nat
  | .lit (.string bytes) => bytes.length + 1
  | .lit _ => 1
  | .nil => 1
  | .ptr d => uptoBulk d + 1
  | .slice elems spare => uptoBulkAll elems + uptoBulkAll spare + 1
  | .agg parts => uptoBulkAll parts + 1
  | .iface _ d => uptoBulk d + 1
  | .map entries => uptoBulkEntries entries + 1
  | .held _ => 1
def uptoBulkAll {H : Type} : List (DataW H) → Nat
  | [] => 0
  | d :: r => uptoBulk d + uptoBulkAll r
def uptoBulkEntries {H : Type} : List (Lit × DataW H) → Nat
  | [] => 0
  | x :: r => uptoBulkEntry x + uptoBulkEntries r
def uptoBulkEntry {H : Type} : Lit × DataW H → Nat
  | (.string bytes, d) => bytes.length + uptoBulk d + 1
  | (_, d) => uptoBulk d + 1
 end
def uptoSmall : (H : Type) → List (DataW H) → Bool := fun _ ds => decide (uptoBulkAll ds ≤ 1048576)
def OpenSpec.upto (s : _root_.Go.ChangeSpec) : _root_.Go.OpenSpec := { _root_.Go.OpenSpec.ofChange s with cond := some uptoSmall }

/-- 'besomlaw14.SliderNews', WHERE WHAT IT READS IS OF BULK AT MOST 1048576: true; the input reads as it did. -/
def sliderNewsUptoRow : OpenClaim := { program := "ytahfnbpbdnmggaa", sum := "0167c300001cbb57e680250f195cdef961740634a29f476cac2c074941853da6", func := "besom/besomlaw14.SliderNews", spec := "sliderNews", unfollowed := true, recurses := true, apart := false, narrowed := true }
def SliderNewsUptoSaid : Prop := sliderNewsUptoRow.holds Try.pinned (OpenSpec.upto sliderNewsSpec)

/-- 'besomlaw14.SliderSame', WHERE WHAT IT READS IS OF BULK AT MOST 1048576: true; the input reads as it did. -/
def sliderSameUptoRow : OpenClaim := { program := "ytahfnbpbdnmggaa", sum := "0167c300001cbb57e680250f195cdef961740634a29f476cac2c074941853da6", func := "besom/besomlaw14.SliderSame", spec := "sliderSame", unfollowed := true, recurses := true, apart := false, narrowed := true }
def SliderSameUptoSaid : Prop := sliderSameUptoRow.holds Try.pinned (OpenSpec.upto sliderSameSpec)

/-- 'besomlaw14.SliderWhole', WHERE WHAT IT READS IS OF BULK AT MOST 1048576: true; the input reads as it did. -/
def sliderWholeUptoRow : OpenClaim := { program := "ytahfnbpbdnmggaa", sum := "0167c300001cbb57e680250f195cdef961740634a29f476cac2c074941853da6", func := "besom/besomlaw14.SliderWhole", spec := "sliderWhole", unfollowed := true, recurses := true, apart := false, narrowed := true }
def SliderWholeUptoSaid : Prop := sliderWholeUptoRow.holds Try.pinned (OpenSpec.upto sliderWholeSpec)

/-- 'besomlaw14.SliderSlides', WHERE WHAT IT READS IS OF BULK AT MOST 1048576: true; the input reads as it did. -/
def sliderSlidesUptoRow : OpenClaim := { program := "ytahfnbpbdnmggaa", sum := "0167c300001cbb57e680250f195cdef961740634a29f476cac2c074941853da6", func := "besom/besomlaw14.SliderSlides", spec := "sliderSlides", unfollowed := true, recurses := true, apart := false, narrowed := true }
def SliderSlidesUptoSaid : Prop := sliderSlidesUptoRow.holds Try.pinned (OpenSpec.upto sliderSlidesSpec)

end Rows
end Go.Proofs.Ytahfnbpbdnmggaa
