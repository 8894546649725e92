/-
  No cell of these rows narrows 'for every input' (looked for: loops, veiled, ifaces, maps, wideKeys, modest, calm, conditions, laid).
  DERIVED. THE GIVEN ROWS OF THIS SEAT. 12 by the template 'for every input the law returns true; each argument reads behind the call as it read before'; 0 by the template 'total and deterministic' (their statements: YtchanmljjfcplaaTotals.lean).
  GIVEN WITH THE SEED: the statements are not yours to turn. If you find one false, say at which input.
  Laid BY PROGRAM, IN A SANDBOX (cutbox-rows.mjs): the forced cells as the released guide's own fill.sh prints them over the translation 9a3c0f3a21a21051… (all of the seat's roots in one cut). By AI agents, Wed Nov 11 2026. No macro, syntax, notation, axiom, sorry.
-/
import Derived.Test.YtchanmljjfcplaaChecked
import GoSem.Claim
import GoSem.ClaimJoined
import GoSem.ClaimMapViews
import Derived.JoinedTies
import Derived.KernelRfl
namespace Go.Proofs.Ytchanmljjfcplaa
/- THE CELL 'sum', in the pinned program and in every row, IS THE sha256 OF THE DUMP (.gsa) THAT YtchanmljjfcplaaProg.lean LOADS. Nothing in Lean hashes anything: it is a label: what it is worth is what the hold of that sum in a sandbox is worth. -/
noncomputable def Try.pinned : Pinned := { name := "ytchanmljjfcplaa", sum := "9a3c0f3a21a210514cdd947de1499f0c68675e3be72c211aaecc7c619ea22032", checked := Try.checked }
namespace Rows
def none {H : Type} : Left H := { results := [], args := [] }

/-- 'besomlaw12.RegionSame': WHATEVER THE INPUT: true; the input reads as it did. -/
def regionSameSpec : ChangeSpec := { name := "regionSame", fn := fun _ => fun
  | [d1, d2, d3] => { results := [.lit (.bool true)], args := [d1, d2, d3] }
  | _ => none }
def regionSameRow : OpenClaim := { program := "ytchanmljjfcplaa", sum := "9a3c0f3a21a210514cdd947de1499f0c68675e3be72c211aaecc7c619ea22032", func := "besom/besomlaw12.RegionSame", spec := "regionSame", unfollowed := true, recurses := true, apart := false }
def RegionSameSaid : Prop := regionSameRow.holds Try.pinned (OpenSpec.ofChange regionSameSpec)

/-- ITS FALSE NEIGHBOUR: 'it returns false'. Refute it at one input. -/
def regionSameWrong : ChangeSpec := { name := "regionSame", fn := fun _ => fun
  | [d1, d2, d3] => { results := [.lit (.bool false)], args := [d1, d2, d3] }
  | _ => none }
def RegionSameWrongFalsely : Prop := regionSameRow.holds Try.pinned (OpenSpec.ofChange regionSameWrong)

/-- 'besomlaw12.RegionAlls': WHATEVER THE INPUT: true; the input reads as it did. -/
def regionAllsSpec : ChangeSpec := { name := "regionAlls", fn := fun _ => fun
  | [d1, d2] => { results := [.lit (.bool true)], args := [d1, d2] }
  | _ => none }
def regionAllsRow : OpenClaim := { program := "ytchanmljjfcplaa", sum := "9a3c0f3a21a210514cdd947de1499f0c68675e3be72c211aaecc7c619ea22032", func := "besom/besomlaw12.RegionAlls", spec := "regionAlls", unfollowed := true, recurses := true, apart := false }
def RegionAllsSaid : Prop := regionAllsRow.holds Try.pinned (OpenSpec.ofChange regionAllsSpec)

/-- ITS FALSE NEIGHBOUR: 'it returns false'. Refute it at one input. -/
def regionAllsWrong : ChangeSpec := { name := "regionAlls", fn := fun _ => fun
  | [d1, d2] => { results := [.lit (.bool false)], args := [d1, d2] }
  | _ => none }
def RegionAllsWrongFalsely : Prop := regionAllsRow.holds Try.pinned (OpenSpec.ofChange regionAllsWrong)

/-- 'besomlaw12.RegionSums': WHATEVER THE INPUT: true; the input reads as it did. -/
def regionSumsSpec : ChangeSpec := { name := "regionSums", fn := fun _ => fun
  | [d1, d2, d3] => { results := [.lit (.bool true)], args := [d1, d2, d3] }
  | _ => none }
def regionSumsRow : OpenClaim := { program := "ytchanmljjfcplaa", sum := "9a3c0f3a21a210514cdd947de1499f0c68675e3be72c211aaecc7c619ea22032", func := "besom/besomlaw12.RegionSums", spec := "regionSums", unfollowed := true, recurses := true, apart := false }
def RegionSumsSaid : Prop := regionSumsRow.holds Try.pinned (OpenSpec.ofChange regionSumsSpec)

/-- ITS FALSE NEIGHBOUR: 'it returns false'. Refute it at one input. -/
def regionSumsWrong : ChangeSpec := { name := "regionSums", fn := fun _ => fun
  | [d1, d2, d3] => { results := [.lit (.bool false)], args := [d1, d2, d3] }
  | _ => none }
def RegionSumsWrongFalsely : Prop := regionSumsRow.holds Try.pinned (OpenSpec.ofChange regionSumsWrong)

/-- 'besomlaw12.RegionRows': WHATEVER THE INPUT: true; the input reads as it did. -/
def regionRowsSpec : ChangeSpec := { name := "regionRows", fn := fun _ => fun
  | [d1, d2, d3] => { results := [.lit (.bool true)], args := [d1, d2, d3] }
  | _ => none }
def regionRowsRow : OpenClaim := { program := "ytchanmljjfcplaa", sum := "9a3c0f3a21a210514cdd947de1499f0c68675e3be72c211aaecc7c619ea22032", func := "besom/besomlaw12.RegionRows", spec := "regionRows", unfollowed := true, recurses := true, apart := false }
def RegionRowsSaid : Prop := regionRowsRow.holds Try.pinned (OpenSpec.ofChange regionRowsSpec)

/-- ITS FALSE NEIGHBOUR: 'it returns false'. Refute it at one input. -/
def regionRowsWrong : ChangeSpec := { name := "regionRows", fn := fun _ => fun
  | [d1, d2, d3] => { results := [.lit (.bool false)], args := [d1, d2, d3] }
  | _ => none }
def RegionRowsWrongFalsely : Prop := regionRowsRow.holds Try.pinned (OpenSpec.ofChange regionRowsWrong)

/-- 'besomlaw13.ForwardSame': WHATEVER THE INPUT: true; the input reads as it did. -/
def forwardSameSpec : ChangeSpec := { name := "forwardSame", fn := fun _ => fun
  | [d1, d2, d3] => { results := [.lit (.bool true)], args := [d1, d2, d3] }
  | _ => none }
def forwardSameRow : OpenClaim := { program := "ytchanmljjfcplaa", sum := "9a3c0f3a21a210514cdd947de1499f0c68675e3be72c211aaecc7c619ea22032", func := "besom/besomlaw13.ForwardSame", spec := "forwardSame", unfollowed := true, recurses := true, apart := false }
def ForwardSameSaid : Prop := forwardSameRow.holds Try.pinned (OpenSpec.ofChange forwardSameSpec)

/-- ITS FALSE NEIGHBOUR: 'it returns false'. Refute it at one input. -/
def forwardSameWrong : ChangeSpec := { name := "forwardSame", fn := fun _ => fun
  | [d1, d2, d3] => { results := [.lit (.bool false)], args := [d1, d2, d3] }
  | _ => none }
def ForwardSameWrongFalsely : Prop := forwardSameRow.holds Try.pinned (OpenSpec.ofChange forwardSameWrong)

/-- 'besomlaw13.ForwardRises': WHATEVER THE INPUT: true; the input reads as it did. -/
def forwardRisesSpec : ChangeSpec := { name := "forwardRises", fn := fun _ => fun
  | [d1, d2, d3] => { results := [.lit (.bool true)], args := [d1, d2, d3] }
  | _ => none }
def forwardRisesRow : OpenClaim := { program := "ytchanmljjfcplaa", sum := "9a3c0f3a21a210514cdd947de1499f0c68675e3be72c211aaecc7c619ea22032", func := "besom/besomlaw13.ForwardRises", spec := "forwardRises", unfollowed := true, recurses := true, apart := false }
def ForwardRisesSaid : Prop := forwardRisesRow.holds Try.pinned (OpenSpec.ofChange forwardRisesSpec)

/-- ITS FALSE NEIGHBOUR: 'it returns false'. Refute it at one input. -/
def forwardRisesWrong : ChangeSpec := { name := "forwardRises", fn := fun _ => fun
  | [d1, d2, d3] => { results := [.lit (.bool false)], args := [d1, d2, d3] }
  | _ => none }
def ForwardRisesWrongFalsely : Prop := forwardRisesRow.holds Try.pinned (OpenSpec.ofChange forwardRisesWrong)

/-- 'besomlaw05.AllocLarge': WHATEVER THE INPUT: true; the input reads as it did. -/
def allocLargeSpec : ChangeSpec := { name := "allocLarge", fn := fun _ => fun
  | [d1, d2] => { results := [.lit (.bool true)], args := [d1, d2] }
  | _ => none }
def allocLargeRow : OpenClaim := { program := "ytchanmljjfcplaa", sum := "9a3c0f3a21a210514cdd947de1499f0c68675e3be72c211aaecc7c619ea22032", func := "besom/besomlaw05.AllocLarge", spec := "allocLarge", apart := false }
def AllocLargeSaid : Prop := allocLargeRow.holds Try.pinned (OpenSpec.ofChange allocLargeSpec)

/-- ITS FALSE NEIGHBOUR: 'it returns false'. Refute it at one input. -/
def allocLargeWrong : ChangeSpec := { name := "allocLarge", fn := fun _ => fun
  | [d1, d2] => { results := [.lit (.bool false)], args := [d1, d2] }
  | _ => none }
def AllocLargeWrongFalsely : Prop := allocLargeRow.holds Try.pinned (OpenSpec.ofChange allocLargeWrong)

/-- 'besomlaw13.ForwardStays': WHATEVER THE INPUT: true; the input reads as it did. -/
def forwardStaysSpec : ChangeSpec := { name := "forwardStays", fn := fun _ => fun
  | [d1, d2] => { results := [.lit (.bool true)], args := [d1, d2] }
  | _ => none }
def forwardStaysRow : OpenClaim := { program := "ytchanmljjfcplaa", sum := "9a3c0f3a21a210514cdd947de1499f0c68675e3be72c211aaecc7c619ea22032", func := "besom/besomlaw13.ForwardStays", spec := "forwardStays", unfollowed := true, recurses := true, apart := false }
def ForwardStaysSaid : Prop := forwardStaysRow.holds Try.pinned (OpenSpec.ofChange forwardStaysSpec)

/-- ITS FALSE NEIGHBOUR: 'it returns false'. Refute it at one input. -/
def forwardStaysWrong : ChangeSpec := { name := "forwardStays", fn := fun _ => fun
  | [d1, d2] => { results := [.lit (.bool false)], args := [d1, d2] }
  | _ => none }
def ForwardStaysWrongFalsely : Prop := forwardStaysRow.holds Try.pinned (OpenSpec.ofChange forwardStaysWrong)

/-- 'besomlaw13.ForwardGoes': WHATEVER THE INPUT: true; the input reads as it did. -/
def forwardGoesSpec : ChangeSpec := { name := "forwardGoes", fn := fun _ => fun
  | [d1, d2, d3] => { results := [.lit (.bool true)], args := [d1, d2, d3] }
  | _ => none }
def forwardGoesRow : OpenClaim := { program := "ytchanmljjfcplaa", sum := "9a3c0f3a21a210514cdd947de1499f0c68675e3be72c211aaecc7c619ea22032", func := "besom/besomlaw13.ForwardGoes", spec := "forwardGoes", unfollowed := true, recurses := true, apart := false }
def ForwardGoesSaid : Prop := forwardGoesRow.holds Try.pinned (OpenSpec.ofChange forwardGoesSpec)

/-- ITS FALSE NEIGHBOUR: 'it returns false'. Refute it at one input. -/
def forwardGoesWrong : ChangeSpec := { name := "forwardGoes", fn := fun _ => fun
  | [d1, d2, d3] => { results := [.lit (.bool false)], args := [d1, d2, d3] }
  | _ => none }
def ForwardGoesWrongFalsely : Prop := forwardGoesRow.holds Try.pinned (OpenSpec.ofChange forwardGoesWrong)

/-- 'besomlaw05.AllocSame': WHATEVER THE INPUT: true; the input reads as it did. -/
def allocSameSpec : ChangeSpec := { name := "allocSame", fn := fun _ => fun
  | [d1, d2, d3] => { results := [.lit (.bool true)], args := [d1, d2, d3] }
  | _ => none }
def allocSameRow : OpenClaim := { program := "ytchanmljjfcplaa", sum := "9a3c0f3a21a210514cdd947de1499f0c68675e3be72c211aaecc7c619ea22032", func := "besom/besomlaw05.AllocSame", spec := "allocSame", apart := false }
def AllocSameSaid : Prop := allocSameRow.holds Try.pinned (OpenSpec.ofChange allocSameSpec)

/-- ITS FALSE NEIGHBOUR: 'it returns false'. Refute it at one input. -/
def allocSameWrong : ChangeSpec := { name := "allocSame", fn := fun _ => fun
  | [d1, d2, d3] => { results := [.lit (.bool false)], args := [d1, d2, d3] }
  | _ => none }
def AllocSameWrongFalsely : Prop := allocSameRow.holds Try.pinned (OpenSpec.ofChange allocSameWrong)

/-- 'besomlaw05.AllocApart': WHATEVER THE INPUT: true; the input reads as it did. -/
def allocApartSpec : ChangeSpec := { name := "allocApart", fn := fun _ => fun
  | [d1, d2, d3] => { results := [.lit (.bool true)], args := [d1, d2, d3] }
  | _ => none }
def allocApartRow : OpenClaim := { program := "ytchanmljjfcplaa", sum := "9a3c0f3a21a210514cdd947de1499f0c68675e3be72c211aaecc7c619ea22032", func := "besom/besomlaw05.AllocApart", spec := "allocApart", unfollowed := true, recurses := true, apart := false }
def AllocApartSaid : Prop := allocApartRow.holds Try.pinned (OpenSpec.ofChange allocApartSpec)

/-- ITS FALSE NEIGHBOUR: 'it returns false'. Refute it at one input. -/
def allocApartWrong : ChangeSpec := { name := "allocApart", fn := fun _ => fun
  | [d1, d2, d3] => { results := [.lit (.bool false)], args := [d1, d2, d3] }
  | _ => none }
def AllocApartWrongFalsely : Prop := allocApartRow.holds Try.pinned (OpenSpec.ofChange allocApartWrong)

/-- 'besomlaw05.AllocPlays': WHATEVER THE INPUT: true; the input reads as it did. -/
def allocPlaysSpec : ChangeSpec := { name := "allocPlays", fn := fun _ => fun
  | [d1, d2, d3] => { results := [.lit (.bool true)], args := [d1, d2, d3] }
  | _ => none }
def allocPlaysRow : OpenClaim := { program := "ytchanmljjfcplaa", sum := "9a3c0f3a21a210514cdd947de1499f0c68675e3be72c211aaecc7c619ea22032", func := "besom/besomlaw05.AllocPlays", spec := "allocPlays", unfollowed := true, recurses := true, apart := false }
def AllocPlaysSaid : Prop := allocPlaysRow.holds Try.pinned (OpenSpec.ofChange allocPlaysSpec)

/-- ITS FALSE NEIGHBOUR: 'it returns false'. Refute it at one input. -/
def allocPlaysWrong : ChangeSpec := { name := "allocPlays", fn := fun _ => fun
  | [d1, d2, d3] => { results := [.lit (.bool false)], args := [d1, d2, d3] }
  | _ => none }
def AllocPlaysWrongFalsely : Prop := allocPlaysRow.holds Try.pinned (OpenSpec.ofChange allocPlaysWrong)

/- THE SECOND FORM. 'bulk': how many values and letters a reading holds, each counted each time it is reached (what is shared counts as often as it is met; a slice's spare places count too). A statement '..UptoSaid' is the law's where the arguments, and the package variables that the reading takes, are together of bulk at most 1048576: NARROWER than '..Said'. Prove '..Said' where nothing that the law and all that it calls make is longer than what came in: it says more and counts as full. Else prove '..UptoSaid'. A law counts once. -/
mutual
def uptoBulk {H : Type} : DataW H → Nat
  | .lit (.string bytes) => bytes.length + 1
  | .lit _ => 1
  | .nil => 1
  | .ptr d => uptoBulk d + 1
  | .slice elems spare => uptoBulkAll elems + uptoBulkAll spare + 1
  | .agg parts => uptoBulkAll parts + 1
  | .iface _ d => uptoBulk d + 1
  | .map entries => uptoBulkEntries entries + 1
  | .held _ => 1
def uptoBulkAll {H : Type} : List (DataW H) → Nat
  | [] => 0
  | d :: r => uptoBulk d + uptoBulkAll r
def uptoBulkEntries {H : Type} : List (Lit × DataW H) → Nat
  | [] => 0
  | x :: r => uptoBulkEntry x + uptoBulkEntries r
def uptoBulkEntry {H : Type} : Lit × DataW H → Nat
  | (.string bytes, d) => bytes.length + uptoBulk d + 1
  | (_, d) => uptoBulk d + 1
 end
def uptoSmall : (H : Type) → List (DataW H) → Bool := fun _ ds => decide (uptoBulkAll ds ≤ 1048576)
def OpenSpec.upto (s : _root_.Go.ChangeSpec) : _root_.Go.OpenSpec := { _root_.Go.OpenSpec.ofChange s with cond := some uptoSmall }

/-- 'besomlaw12.RegionSame', WHERE WHAT IT READS IS OF BULK AT MOST 1048576: true; the input reads as it did. -/
def regionSameUptoRow : OpenClaim := { program := "ytchanmljjfcplaa", sum := "9a3c0f3a21a210514cdd947de1499f0c68675e3be72c211aaecc7c619ea22032", func := "besom/besomlaw12.RegionSame", spec := "regionSame", unfollowed := true, recurses := true, apart := false, narrowed := true }
def RegionSameUptoSaid : Prop := regionSameUptoRow.holds Try.pinned (OpenSpec.upto regionSameSpec)

/-- 'besomlaw12.RegionAlls', WHERE WHAT IT READS IS OF BULK AT MOST 1048576: true; the input reads as it did. -/
def regionAllsUptoRow : OpenClaim := { program := "ytchanmljjfcplaa", sum := "9a3c0f3a21a210514cdd947de1499f0c68675e3be72c211aaecc7c619ea22032", func := "besom/besomlaw12.RegionAlls", spec := "regionAlls", unfollowed := true, recurses := true, apart := false, narrowed := true }
def RegionAllsUptoSaid : Prop := regionAllsUptoRow.holds Try.pinned (OpenSpec.upto regionAllsSpec)

/-- 'besomlaw12.RegionSums', WHERE WHAT IT READS IS OF BULK AT MOST 1048576: true; the input reads as it did. -/
def regionSumsUptoRow : OpenClaim := { program := "ytchanmljjfcplaa", sum := "9a3c0f3a21a210514cdd947de1499f0c68675e3be72c211aaecc7c619ea22032", func := "besom/besomlaw12.RegionSums", spec := "regionSums", unfollowed := true, recurses := true, apart := false, narrowed := true }
def RegionSumsUptoSaid : Prop := regionSumsUptoRow.holds Try.pinned (OpenSpec.upto regionSumsSpec)

/-- 'besomlaw12.RegionRows', WHERE WHAT IT READS IS OF BULK AT MOST 1048576: true; the input reads as it did. -/
def regionRowsUptoRow : OpenClaim := { program := "ytchanmljjfcplaa", sum := "9a3c0f3a21a210514cdd947de1499f0c68675e3be72c211aaecc7c619ea22032", func := "besom/besomlaw12.RegionRows", spec := "regionRows", unfollowed := true, recurses := true, apart := false, narrowed := true }
def RegionRowsUptoSaid : Prop := regionRowsUptoRow.holds Try.pinned (OpenSpec.upto regionRowsSpec)

/-- 'besomlaw13.ForwardSame', WHERE WHAT IT READS IS OF BULK AT MOST 1048576: true; the input reads as it did. -/
def forwardSameUptoRow : OpenClaim := { program := "ytchanmljjfcplaa", sum := "9a3c0f3a21a210514cdd947de1499f0c68675e3be72c211aaecc7c619ea22032", func := "besom/besomlaw13.ForwardSame", spec := "forwardSame", unfollowed := true, recurses := true, apart := false, narrowed := true }
def ForwardSameUptoSaid : Prop := forwardSameUptoRow.holds Try.pinned (OpenSpec.upto forwardSameSpec)

/-- 'besomlaw13.ForwardRises', WHERE WHAT IT READS IS OF BULK AT MOST 1048576: true; the input reads as it did. -/
def forwardRisesUptoRow : OpenClaim := { program := "ytchanmljjfcplaa", sum := "9a3c0f3a21a210514cdd947de1499f0c68675e3be72c211aaecc7c619ea22032", func := "besom/besomlaw13.ForwardRises", spec := "forwardRises", unfollowed := true, recurses := true, apart := false, narrowed := true }
def ForwardRisesUptoSaid : Prop := forwardRisesUptoRow.holds Try.pinned (OpenSpec.upto forwardRisesSpec)

/-- 'besomlaw05.AllocLarge', WHERE WHAT IT READS IS OF BULK AT MOST 1048576: true; the input reads as it did. -/
def allocLargeUptoRow : OpenClaim := { program := "ytchanmljjfcplaa", sum := "9a3c0f3a21a210514cdd947de1499f0c68675e3be72c211aaecc7c619ea22032", func := "besom/besomlaw05.AllocLarge", spec := "allocLarge", apart := false, narrowed := true }
def AllocLargeUptoSaid : Prop := allocLargeUptoRow.holds Try.pinned (OpenSpec.upto allocLargeSpec)

/-- 'besomlaw13.ForwardStays', WHERE WHAT IT READS IS OF BULK AT MOST 1048576: true; the input reads as it did. -/
def forwardStaysUptoRow : OpenClaim := { program := "ytchanmljjfcplaa", sum := "9a3c0f3a21a210514cdd947de1499f0c68675e3be72c211aaecc7c619ea22032", func := "besom/besomlaw13.ForwardStays", spec := "forwardStays", unfollowed := true, recurses := true, apart := false, narrowed := true }
def ForwardStaysUptoSaid : Prop := forwardStaysUptoRow.holds Try.pinned (OpenSpec.upto forwardStaysSpec)

/-- 'besomlaw13.ForwardGoes', WHERE WHAT IT READS IS OF BULK AT MOST 1048576: true; the input reads as it did. -/
def forwardGoesUptoRow : OpenClaim := { program := "ytchanmljjfcplaa", sum := "9a3c0f3a21a210514cdd947de1499f0c68675e3be72c211aaecc7c619ea22032", func := "besom/besomlaw13.ForwardGoes", spec := "forwardGoes", unfollowed := true, recurses := true, apart := false, narrowed := true }
def ForwardGoesUptoSaid : Prop := forwardGoesUptoRow.holds Try.pinned (OpenSpec.upto forwardGoesSpec)

/-- 'besomlaw05.AllocSame', WHERE WHAT IT READS IS OF BULK AT MOST 1048576: true; the input reads as it did. -/
def allocSameUptoRow : OpenClaim := { program := "ytchanmljjfcplaa", sum := "9a3c0f3a21a210514cdd947de1499f0c68675e3be72c211aaecc7c619ea22032", func := "besom/besomlaw05.AllocSame", spec := "allocSame", apart := false, narrowed := true }
def AllocSameUptoSaid : Prop := allocSameUptoRow.holds Try.pinned (OpenSpec.upto allocSameSpec)

/-- 'besomlaw05.AllocApart', WHERE WHAT IT READS IS OF BULK AT MOST 1048576: true; the input reads as it did. -/
def allocApartUptoRow : OpenClaim := { program := "ytchanmljjfcplaa", sum := "9a3c0f3a21a210514cdd947de1499f0c68675e3be72c211aaecc7c619ea22032", func := "besom/besomlaw05.AllocApart", spec := "allocApart", unfollowed := true, recurses := true, apart := false, narrowed := true }
def AllocApartUptoSaid : Prop := allocApartUptoRow.holds Try.pinned (OpenSpec.upto allocApartSpec)

/-- 'besomlaw05.AllocPlays', WHERE WHAT IT READS IS OF BULK AT MOST 1048576: true; the input reads as it did. -/
def allocPlaysUptoRow : OpenClaim := { program := "ytchanmljjfcplaa", sum := "9a3c0f3a21a210514cdd947de1499f0c68675e3be72c211aaecc7c619ea22032", func := "besom/besomlaw05.AllocPlays", spec := "allocPlays", unfollowed := true, recurses := true, apart := false, narrowed := true }
def AllocPlaysUptoSaid : Prop := allocPlaysUptoRow.holds Try.pinned (OpenSpec.upto allocPlaysSpec)

end Rows
end Go.Proofs.Ytchanmljjfcplaa
