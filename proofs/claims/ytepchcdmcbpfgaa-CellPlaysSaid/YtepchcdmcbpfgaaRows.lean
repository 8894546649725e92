/-
  No cell of these rows narrows 'for every input' (looked for: loops, veiled, ifaces, maps, wideKeys, modest, calm, conditions, laid).
  DERIVED. THE GIVEN ROWS OF THIS SEAT. 13 by the template 'for every input the law returns true; each argument reads behind the call as it read before'; 0 by the template 'total and deterministic' (their statements: YtepchcdmcbpfgaaTotals.lean).
  GIVEN WITH THE SEED: the statements are not yours to turn. If you find one false, say at which input.
  Laid BY PROGRAM, IN A SANDBOX (cutbox-rows.mjs): the forced cells as the released guide's own fill.sh prints them over the translation a11361c8effe8695… (all of the seat's roots in one cut). By AI agents, Wed Nov 11 2026. No macro, syntax, notation, axiom, sorry.
-/
import Derived.Test.YtepchcdmcbpfgaaChecked
import GoSem.Claim
import GoSem.ClaimJoined
import GoSem.ClaimMapViews
import Derived.JoinedTies
import Derived.KernelRfl
namespace Go.Proofs.Ytepchcdmcbpfgaa
/- THE CELL 'sum', in the pinned program and in every row, IS THE sha256 OF THE DUMP (.gsa) THAT YtepchcdmcbpfgaaProg.lean LOADS. Nothing in Lean hashes anything: it is a label: what it is worth is what the hold of that sum in a sandbox is worth. -/
noncomputable def Try.pinned : Pinned := { name := "ytepchcdmcbpfgaa", sum := "a11361c8effe8695ab9fdee79c393147d00a4b44c03bc8775aa40b85c6b95d6a", checked := Try.checked }
namespace Rows
def none {H : Type} : Left H := { results := [], args := [] }

/-- 'besomlaw03.CellSums': WHATEVER THE INPUT: true; the input reads as it did. -/
def cellSumsSpec : ChangeSpec := { name := "cellSums", fn := fun _ => fun
  | [d] => { results := [.lit (.bool true)], args := [d] }
  | _ => none }
def cellSumsRow : OpenClaim := { program := "ytepchcdmcbpfgaa", sum := "a11361c8effe8695ab9fdee79c393147d00a4b44c03bc8775aa40b85c6b95d6a", func := "besom/besomlaw03.CellSums", spec := "cellSums", unfollowed := true, recurses := true, apart := false }
def CellSumsSaid : Prop := cellSumsRow.holds Try.pinned (OpenSpec.ofChange cellSumsSpec)

/-- ITS FALSE NEIGHBOUR: 'it returns false'. Refute it at one input. -/
def cellSumsWrong : ChangeSpec := { name := "cellSums", fn := fun _ => fun
  | [d] => { results := [.lit (.bool false)], args := [d] }
  | _ => none }
def CellSumsWrongFalsely : Prop := cellSumsRow.holds Try.pinned (OpenSpec.ofChange cellSumsWrong)

/-- 'besomlaw03.CellNews': WHATEVER THE INPUT: true; the input reads as it did. -/
def cellNewsSpec : ChangeSpec := { name := "cellNews", fn := fun _ => fun
  | [d] => { results := [.lit (.bool true)], args := [d] }
  | _ => none }
def cellNewsRow : OpenClaim := { program := "ytepchcdmcbpfgaa", sum := "a11361c8effe8695ab9fdee79c393147d00a4b44c03bc8775aa40b85c6b95d6a", func := "besom/besomlaw03.CellNews", spec := "cellNews", unfollowed := true, recurses := true, apart := false }
def CellNewsSaid : Prop := cellNewsRow.holds Try.pinned (OpenSpec.ofChange cellNewsSpec)

/-- ITS FALSE NEIGHBOUR: 'it returns false'. Refute it at one input. -/
def cellNewsWrong : ChangeSpec := { name := "cellNews", fn := fun _ => fun
  | [d] => { results := [.lit (.bool false)], args := [d] }
  | _ => none }
def CellNewsWrongFalsely : Prop := cellNewsRow.holds Try.pinned (OpenSpec.ofChange cellNewsWrong)

/-- 'besomlaw03.CellRound': WHATEVER THE INPUT: true; the input reads as it did. -/
def cellRoundSpec : ChangeSpec := { name := "cellRound", fn := fun _ => fun
  | [d1, d2] => { results := [.lit (.bool true)], args := [d1, d2] }
  | _ => none }
def cellRoundRow : OpenClaim := { program := "ytepchcdmcbpfgaa", sum := "a11361c8effe8695ab9fdee79c393147d00a4b44c03bc8775aa40b85c6b95d6a", func := "besom/besomlaw03.CellRound", spec := "cellRound", unfollowed := true, recurses := true, apart := false }
def CellRoundSaid : Prop := cellRoundRow.holds Try.pinned (OpenSpec.ofChange cellRoundSpec)

/-- ITS FALSE NEIGHBOUR: 'it returns false'. Refute it at one input. -/
def cellRoundWrong : ChangeSpec := { name := "cellRound", fn := fun _ => fun
  | [d1, d2] => { results := [.lit (.bool false)], args := [d1, d2] }
  | _ => none }
def CellRoundWrongFalsely : Prop := cellRoundRow.holds Try.pinned (OpenSpec.ofChange cellRoundWrong)

/-- 'besomlaw03.CellRaces': WHATEVER THE INPUT: true; the input reads as it did. -/
def cellRacesSpec : ChangeSpec := { name := "cellRaces", fn := fun _ => fun
  | [d1, d2] => { results := [.lit (.bool true)], args := [d1, d2] }
  | _ => none }
def cellRacesRow : OpenClaim := { program := "ytepchcdmcbpfgaa", sum := "a11361c8effe8695ab9fdee79c393147d00a4b44c03bc8775aa40b85c6b95d6a", func := "besom/besomlaw03.CellRaces", spec := "cellRaces", unfollowed := true, recurses := true, apart := false }
def CellRacesSaid : Prop := cellRacesRow.holds Try.pinned (OpenSpec.ofChange cellRacesSpec)

/-- ITS FALSE NEIGHBOUR: 'it returns false'. Refute it at one input. -/
def cellRacesWrong : ChangeSpec := { name := "cellRaces", fn := fun _ => fun
  | [d1, d2] => { results := [.lit (.bool false)], args := [d1, d2] }
  | _ => none }
def CellRacesWrongFalsely : Prop := cellRacesRow.holds Try.pinned (OpenSpec.ofChange cellRacesWrong)

/-- 'besomlaw03.CellApart': WHATEVER THE INPUT: true; the input reads as it did. -/
def cellApartSpec : ChangeSpec := { name := "cellApart", fn := fun _ => fun
  | [d1, d2] => { results := [.lit (.bool true)], args := [d1, d2] }
  | _ => none }
def cellApartRow : OpenClaim := { program := "ytepchcdmcbpfgaa", sum := "a11361c8effe8695ab9fdee79c393147d00a4b44c03bc8775aa40b85c6b95d6a", func := "besom/besomlaw03.CellApart", spec := "cellApart", unfollowed := true, recurses := true, apart := false }
def CellApartSaid : Prop := cellApartRow.holds Try.pinned (OpenSpec.ofChange cellApartSpec)

/-- ITS FALSE NEIGHBOUR: 'it returns false'. Refute it at one input. -/
def cellApartWrong : ChangeSpec := { name := "cellApart", fn := fun _ => fun
  | [d1, d2] => { results := [.lit (.bool false)], args := [d1, d2] }
  | _ => none }
def CellApartWrongFalsely : Prop := cellApartRow.holds Try.pinned (OpenSpec.ofChange cellApartWrong)

/-- 'besomlaw03.CellPlays': WHATEVER THE INPUT: true; the input reads as it did. -/
def cellPlaysSpec : ChangeSpec := { name := "cellPlays", fn := fun _ => fun
  | [d1, d2] => { results := [.lit (.bool true)], args := [d1, d2] }
  | _ => none }
def cellPlaysRow : OpenClaim := { program := "ytepchcdmcbpfgaa", sum := "a11361c8effe8695ab9fdee79c393147d00a4b44c03bc8775aa40b85c6b95d6a", func := "besom/besomlaw03.CellPlays", spec := "cellPlays", unfollowed := true, recurses := true, apart := false }
def CellPlaysSaid : Prop := cellPlaysRow.holds Try.pinned (OpenSpec.ofChange cellPlaysSpec)

/-- ITS FALSE NEIGHBOUR: 'it returns false'. Refute it at one input. -/
def cellPlaysWrong : ChangeSpec := { name := "cellPlays", fn := fun _ => fun
  | [d1, d2] => { results := [.lit (.bool false)], args := [d1, d2] }
  | _ => none }
def CellPlaysWrongFalsely : Prop := cellPlaysRow.holds Try.pinned (OpenSpec.ofChange cellPlaysWrong)

/-- 'besomlaw09.RootsFull': WHATEVER THE INPUT: true; the input reads as it did. -/
def rootsFullSpec : ChangeSpec := { name := "rootsFull", fn := fun _ => fun
  | [d] => { results := [.lit (.bool true)], args := [d] }
  | _ => none }
def rootsFullRow : OpenClaim := { program := "ytepchcdmcbpfgaa", sum := "a11361c8effe8695ab9fdee79c393147d00a4b44c03bc8775aa40b85c6b95d6a", func := "besom/besomlaw09.RootsFull", spec := "rootsFull", unfollowed := true, recurses := true, apart := false }
def RootsFullSaid : Prop := rootsFullRow.holds Try.pinned (OpenSpec.ofChange rootsFullSpec)

/-- ITS FALSE NEIGHBOUR: 'it returns false'. Refute it at one input. -/
def rootsFullWrong : ChangeSpec := { name := "rootsFull", fn := fun _ => fun
  | [d] => { results := [.lit (.bool false)], args := [d] }
  | _ => none }
def RootsFullWrongFalsely : Prop := rootsFullRow.holds Try.pinned (OpenSpec.ofChange rootsFullWrong)

/-- 'besomlaw09.RootsClaims': WHATEVER THE INPUT: true; the input reads as it did. -/
def rootsClaimsSpec : ChangeSpec := { name := "rootsClaims", fn := fun _ => fun
  | [d1, d2, d3] => { results := [.lit (.bool true)], args := [d1, d2, d3] }
  | _ => none }
def rootsClaimsRow : OpenClaim := { program := "ytepchcdmcbpfgaa", sum := "a11361c8effe8695ab9fdee79c393147d00a4b44c03bc8775aa40b85c6b95d6a", func := "besom/besomlaw09.RootsClaims", spec := "rootsClaims", unfollowed := true, recurses := true, apart := false }
def RootsClaimsSaid : Prop := rootsClaimsRow.holds Try.pinned (OpenSpec.ofChange rootsClaimsSpec)

/-- ITS FALSE NEIGHBOUR: 'it returns false'. Refute it at one input. -/
def rootsClaimsWrong : ChangeSpec := { name := "rootsClaims", fn := fun _ => fun
  | [d1, d2, d3] => { results := [.lit (.bool false)], args := [d1, d2, d3] }
  | _ => none }
def RootsClaimsWrongFalsely : Prop := rootsClaimsRow.holds Try.pinned (OpenSpec.ofChange rootsClaimsWrong)

/-- 'besomlaw10.OfferNews': WHATEVER THE INPUT: true; the input reads as it did. -/
def offerNewsSpec : ChangeSpec := { name := "offerNews", fn := fun _ => fun
  | [d1, d2] => { results := [.lit (.bool true)], args := [d1, d2] }
  | _ => none }
def offerNewsRow : OpenClaim := { program := "ytepchcdmcbpfgaa", sum := "a11361c8effe8695ab9fdee79c393147d00a4b44c03bc8775aa40b85c6b95d6a", func := "besom/besomlaw10.OfferNews", spec := "offerNews", unfollowed := true, recurses := true, apart := false }
def OfferNewsSaid : Prop := offerNewsRow.holds Try.pinned (OpenSpec.ofChange offerNewsSpec)

/-- ITS FALSE NEIGHBOUR: 'it returns false'. Refute it at one input. -/
def offerNewsWrong : ChangeSpec := { name := "offerNews", fn := fun _ => fun
  | [d1, d2] => { results := [.lit (.bool false)], args := [d1, d2] }
  | _ => none }
def OfferNewsWrongFalsely : Prop := offerNewsRow.holds Try.pinned (OpenSpec.ofChange offerNewsWrong)

/-- 'besomlaw09.RootsTail': WHATEVER THE INPUT: true; the input reads as it did. -/
def rootsTailSpec : ChangeSpec := { name := "rootsTail", fn := fun _ => fun
  | [d] => { results := [.lit (.bool true)], args := [d] }
  | _ => none }
def rootsTailRow : OpenClaim := { program := "ytepchcdmcbpfgaa", sum := "a11361c8effe8695ab9fdee79c393147d00a4b44c03bc8775aa40b85c6b95d6a", func := "besom/besomlaw09.RootsTail", spec := "rootsTail", unfollowed := true, recurses := true, apart := false }
def RootsTailSaid : Prop := rootsTailRow.holds Try.pinned (OpenSpec.ofChange rootsTailSpec)

/-- ITS FALSE NEIGHBOUR: 'it returns false'. Refute it at one input. -/
def rootsTailWrong : ChangeSpec := { name := "rootsTail", fn := fun _ => fun
  | [d] => { results := [.lit (.bool false)], args := [d] }
  | _ => none }
def RootsTailWrongFalsely : Prop := rootsTailRow.holds Try.pinned (OpenSpec.ofChange rootsTailWrong)

/-- 'besomlaw10.OfferWaves': WHATEVER THE INPUT: true; the input reads as it did. -/
def offerWavesSpec : ChangeSpec := { name := "offerWaves", fn := fun _ => fun
  | [d1, d2] => { results := [.lit (.bool true)], args := [d1, d2] }
  | _ => none }
def offerWavesRow : OpenClaim := { program := "ytepchcdmcbpfgaa", sum := "a11361c8effe8695ab9fdee79c393147d00a4b44c03bc8775aa40b85c6b95d6a", func := "besom/besomlaw10.OfferWaves", spec := "offerWaves", unfollowed := true, recurses := true, apart := false }
def OfferWavesSaid : Prop := offerWavesRow.holds Try.pinned (OpenSpec.ofChange offerWavesSpec)

/-- ITS FALSE NEIGHBOUR: 'it returns false'. Refute it at one input. -/
def offerWavesWrong : ChangeSpec := { name := "offerWaves", fn := fun _ => fun
  | [d1, d2] => { results := [.lit (.bool false)], args := [d1, d2] }
  | _ => none }
def OfferWavesWrongFalsely : Prop := offerWavesRow.holds Try.pinned (OpenSpec.ofChange offerWavesWrong)

/-- 'besomlaw10.OfferPlays': WHATEVER THE INPUT: true; the input reads as it did. -/
def offerPlaysSpec : ChangeSpec := { name := "offerPlays", fn := fun _ => fun
  | [d1, d2] => { results := [.lit (.bool true)], args := [d1, d2] }
  | _ => none }
def offerPlaysRow : OpenClaim := { program := "ytepchcdmcbpfgaa", sum := "a11361c8effe8695ab9fdee79c393147d00a4b44c03bc8775aa40b85c6b95d6a", func := "besom/besomlaw10.OfferPlays", spec := "offerPlays", unfollowed := true, recurses := true, apart := false }
def OfferPlaysSaid : Prop := offerPlaysRow.holds Try.pinned (OpenSpec.ofChange offerPlaysSpec)

/-- ITS FALSE NEIGHBOUR: 'it returns false'. Refute it at one input. -/
def offerPlaysWrong : ChangeSpec := { name := "offerPlays", fn := fun _ => fun
  | [d1, d2] => { results := [.lit (.bool false)], args := [d1, d2] }
  | _ => none }
def OfferPlaysWrongFalsely : Prop := offerPlaysRow.holds Try.pinned (OpenSpec.ofChange offerPlaysWrong)

/-- 'besomlaw09.RootsPlays': WHATEVER THE INPUT: true; the input reads as it did. -/
def rootsPlaysSpec : ChangeSpec := { name := "rootsPlays", fn := fun _ => fun
  | [d] => { results := [.lit (.bool true)], args := [d] }
  | _ => none }
def rootsPlaysRow : OpenClaim := { program := "ytepchcdmcbpfgaa", sum := "a11361c8effe8695ab9fdee79c393147d00a4b44c03bc8775aa40b85c6b95d6a", func := "besom/besomlaw09.RootsPlays", spec := "rootsPlays", unfollowed := true, recurses := true, apart := false }
def RootsPlaysSaid : Prop := rootsPlaysRow.holds Try.pinned (OpenSpec.ofChange rootsPlaysSpec)

/-- ITS FALSE NEIGHBOUR: 'it returns false'. Refute it at one input. -/
def rootsPlaysWrong : ChangeSpec := { name := "rootsPlays", fn := fun _ => fun
  | [d] => { results := [.lit (.bool false)], args := [d] }
  | _ => none }
def RootsPlaysWrongFalsely : Prop := rootsPlaysRow.holds Try.pinned (OpenSpec.ofChange rootsPlaysWrong)

/- THE SECOND FORM. 'bulk': how many values and letters a reading holds, each counted each time it is reached (what is shared counts as often as it is met; a slice's spare places count too). A statement '..UptoSaid' is the law's where the arguments, and the package variables that the reading takes, are together of bulk at most 1048576: NARROWER than '..Said'. Prove '..Said' where nothing that the law and all that it calls make is longer than what came in: it says more and counts as full. Else prove '..UptoSaid'. A law counts once. -/
mutual
def uptoBulk {H : Type} : DataW H → Nat
  | .lit (.string bytes) => bytes.length + 1
  | .lit _ => 1
  | .nil => 1
  | .ptr d => uptoBulk d + 1
  | .slice elems spare => uptoBulkAll elems + uptoBulkAll spare + 1
  | .agg parts => uptoBulkAll parts + 1
  | .iface _ d => uptoBulk d + 1
  | .map entries => uptoBulkEntries entries + 1
  | .held _ => 1
def uptoBulkAll {H : Type} : List (DataW H) → Nat
  | [] => 0
  | d :: r => uptoBulk d + uptoBulkAll r
def uptoBulkEntries {H : Type} : List (Lit × DataW H) → Nat
  | [] => 0
  | x :: r => uptoBulkEntry x + uptoBulkEntries r
def uptoBulkEntry {H : Type} : Lit × DataW H → Nat
  | (.string bytes, d) => bytes.length + uptoBulk d + 1
  | (_, d) => uptoBulk d + 1
 end
def uptoSmall : (H : Type) → List (DataW H) → Bool := fun _ ds => decide (uptoBulkAll ds ≤ 1048576)
def OpenSpec.upto (s : _root_.Go.ChangeSpec) : _root_.Go.OpenSpec := { _root_.Go.OpenSpec.ofChange s with cond := some uptoSmall }

/-- 'besomlaw03.CellSums', WHERE WHAT IT READS IS OF BULK AT MOST 1048576: true; the input reads as it did. -/
def cellSumsUptoRow : OpenClaim := { program := "ytepchcdmcbpfgaa", sum := "a11361c8effe8695ab9fdee79c393147d00a4b44c03bc8775aa40b85c6b95d6a", func := "besom/besomlaw03.CellSums", spec := "cellSums", unfollowed := true, recurses := true, apart := false, narrowed := true }
def CellSumsUptoSaid : Prop := cellSumsUptoRow.holds Try.pinned (OpenSpec.upto cellSumsSpec)

/-- 'besomlaw03.CellNews', WHERE WHAT IT READS IS OF BULK AT MOST 1048576: true; the input reads as it did. -/
def cellNewsUptoRow : OpenClaim := { program := "ytepchcdmcbpfgaa", sum := "a11361c8effe8695ab9fdee79c393147d00a4b44c03bc8775aa40b85c6b95d6a", func := "besom/besomlaw03.CellNews", spec := "cellNews", unfollowed := true, recurses := true, apart := false, narrowed := true }
def CellNewsUptoSaid : Prop := cellNewsUptoRow.holds Try.pinned (OpenSpec.upto cellNewsSpec)

/-- 'besomlaw03.CellRound', WHERE WHAT IT READS IS OF BULK AT MOST 1048576: true; the input reads as it did. -/
def cellRoundUptoRow : OpenClaim := { program := "ytepchcdmcbpfgaa", sum := "a11361c8effe8695ab9fdee79c393147d00a4b44c03bc8775aa40b85c6b95d6a", func := "besom/besomlaw03.CellRound", spec := "cellRound", unfollowed := true, recurses := true, apart := false, narrowed := true }
def CellRoundUptoSaid : Prop := cellRoundUptoRow.holds Try.pinned (OpenSpec.upto cellRoundSpec)

/-- 'besomlaw03.CellRaces', WHERE WHAT IT READS IS OF BULK AT MOST 1048576: true; the input reads as it did. -/
def cellRacesUptoRow : OpenClaim := { program := "ytepchcdmcbpfgaa", sum := "a11361c8effe8695ab9fdee79c393147d00a4b44c03bc8775aa40b85c6b95d6a", func := "besom/besomlaw03.CellRaces", spec := "cellRaces", unfollowed := true, recurses := true, apart := false, narrowed := true }
def CellRacesUptoSaid : Prop := cellRacesUptoRow.holds Try.pinned (OpenSpec.upto cellRacesSpec)

/-- 'besomlaw03.CellApart', WHERE WHAT IT READS IS OF BULK AT MOST 1048576: true; the input reads as it did. -/
def cellApartUptoRow : OpenClaim := { program := "ytepchcdmcbpfgaa", sum := "a11361c8effe8695ab9fdee79c393147d00a4b44c03bc8775aa40b85c6b95d6a", func := "besom/besomlaw03.CellApart", spec := "cellApart", unfollowed := true, recurses := true, apart := false, narrowed := true }
def CellApartUptoSaid : Prop := cellApartUptoRow.holds Try.pinned (OpenSpec.upto cellApartSpec)

/-- 'besomlaw03.CellPlays', WHERE WHAT IT READS IS OF BULK AT MOST 1048576: true; the input reads as it did. -/
def cellPlaysUptoRow : OpenClaim := { program := "ytepchcdmcbpfgaa", sum := "a11361c8effe8695ab9fdee79c393147d00a4b44c03bc8775aa40b85c6b95d6a", func := "besom/besomlaw03.CellPlays", spec := "cellPlays", unfollowed := true, recurses := true, apart := false, narrowed := true }
def CellPlaysUptoSaid : Prop := cellPlaysUptoRow.holds Try.pinned (OpenSpec.upto cellPlaysSpec)

/-- 'besomlaw09.RootsFull', WHERE WHAT IT READS IS OF BULK AT MOST 1048576: true; the input reads as it did. -/
def rootsFullUptoRow : OpenClaim := { program := "ytepchcdmcbpfgaa", sum := "a11361c8effe8695ab9fdee79c393147d00a4b44c03bc8775aa40b85c6b95d6a", func := "besom/besomlaw09.RootsFull", spec := "rootsFull", unfollowed := true, recurses := true, apart := false, narrowed := true }
def RootsFullUptoSaid : Prop := rootsFullUptoRow.holds Try.pinned (OpenSpec.upto rootsFullSpec)

/-- 'besomlaw09.RootsClaims', WHERE WHAT IT READS IS OF BULK AT MOST 1048576: true; the input reads as it did. -/
def rootsClaimsUptoRow : OpenClaim := { program := "ytepchcdmcbpfgaa", sum := "a11361c8effe8695ab9fdee79c393147d00a4b44c03bc8775aa40b85c6b95d6a", func := "besom/besomlaw09.RootsClaims", spec := "rootsClaims", unfollowed := true, recurses := true, apart := false, narrowed := true }
def RootsClaimsUptoSaid : Prop := rootsClaimsUptoRow.holds Try.pinned (OpenSpec.upto rootsClaimsSpec)

/-- 'besomlaw10.OfferNews', WHERE WHAT IT READS IS OF BULK AT MOST 1048576: true; the input reads as it did. -/
def offerNewsUptoRow : OpenClaim := { program := "ytepchcdmcbpfgaa", sum := "a11361c8effe8695ab9fdee79c393147d00a4b44c03bc8775aa40b85c6b95d6a", func := "besom/besomlaw10.OfferNews", spec := "offerNews", unfollowed := true, recurses := true, apart := false, narrowed := true }
def OfferNewsUptoSaid : Prop := offerNewsUptoRow.holds Try.pinned (OpenSpec.upto offerNewsSpec)

/-- 'besomlaw09.RootsTail', WHERE WHAT IT READS IS OF BULK AT MOST 1048576: true; the input reads as it did. -/
def rootsTailUptoRow : OpenClaim := { program := "ytepchcdmcbpfgaa", sum := "a11361c8effe8695ab9fdee79c393147d00a4b44c03bc8775aa40b85c6b95d6a", func := "besom/besomlaw09.RootsTail", spec := "rootsTail", unfollowed := true, recurses := true, apart := false, narrowed := true }
def RootsTailUptoSaid : Prop := rootsTailUptoRow.holds Try.pinned (OpenSpec.upto rootsTailSpec)

/-- 'besomlaw10.OfferWaves', WHERE WHAT IT READS IS OF BULK AT MOST 1048576: true; the input reads as it did. -/
def offerWavesUptoRow : OpenClaim := { program := "ytepchcdmcbpfgaa", sum := "a11361c8effe8695ab9fdee79c393147d00a4b44c03bc8775aa40b85c6b95d6a", func := "besom/besomlaw10.OfferWaves", spec := "offerWaves", unfollowed := true, recurses := true, apart := false, narrowed := true }
def OfferWavesUptoSaid : Prop := offerWavesUptoRow.holds Try.pinned (OpenSpec.upto offerWavesSpec)

/-- 'besomlaw10.OfferPlays', WHERE WHAT IT READS IS OF BULK AT MOST 1048576: true; the input reads as it did. -/
def offerPlaysUptoRow : OpenClaim := { program := "ytepchcdmcbpfgaa", sum := "a11361c8effe8695ab9fdee79c393147d00a4b44c03bc8775aa40b85c6b95d6a", func := "besom/besomlaw10.OfferPlays", spec := "offerPlays", unfollowed := true, recurses := true, apart := false, narrowed := true }
def OfferPlaysUptoSaid : Prop := offerPlaysUptoRow.holds Try.pinned (OpenSpec.upto offerPlaysSpec)

/-- 'besomlaw09.RootsPlays', WHERE WHAT IT READS IS OF BULK AT MOST 1048576: true; the input reads as it did. -/
def rootsPlaysUptoRow : OpenClaim := { program := "ytepchcdmcbpfgaa", sum := "a11361c8effe8695ab9fdee79c393147d00a4b44c03bc8775aa40b85c6b95d6a", func := "besom/besomlaw09.RootsPlays", spec := "rootsPlays", unfollowed := true, recurses := true, apart := false, narrowed := true }
def RootsPlaysUptoSaid : Prop := rootsPlaysUptoRow.holds Try.pinned (OpenSpec.upto rootsPlaysSpec)

end Rows
end Go.Proofs.Ytepchcdmcbpfgaa
