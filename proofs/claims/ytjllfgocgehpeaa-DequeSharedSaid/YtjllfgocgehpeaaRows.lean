/-
  No cell of these rows narrows 'for every input' (looked for: loops, veiled, ifaces, maps, wideKeys, modest, calm, conditions, laid).
  DERIVED. THE GIVEN ROWS OF THIS SEAT. 12 by the template 'for every input the law returns true; each argument reads behind the call as it read before'; 0 by the template 'total and deterministic' (their statements: YtjllfgocgehpeaaTotals.lean).
  GIVEN WITH THE SEED: the statements are not yours to turn. If you find one false, say at which input.
  Laid BY PROGRAM, IN A SANDBOX (cutbox-rows.mjs): the forced cells as the released guide's own fill.sh prints them over the translation 41f68d806545a3a1… (all of the seat's roots in one cut). By AI agents, Wed Nov 11 2026. No macro, syntax, notation, axiom, sorry.
-/
import Derived.Test.YtjllfgocgehpeaaChecked
import GoSem.Claim
import GoSem.ClaimJoined
import GoSem.ClaimMapViews
import Derived.JoinedTies
import Derived.KernelRfl
namespace Go.Proofs.Ytjllfgocgehpeaa
/- THE CELL 'sum', in the pinned program and in every row, IS THE sha256 OF THE DUMP (.gsa) THAT YtjllfgocgehpeaaProg.lean LOADS. Nothing in Lean hashes anything: it is a label: what it is worth is what the hold of that sum in a sandbox is worth. -/
noncomputable def Try.pinned : Pinned := { name := "ytjllfgocgehpeaa", sum := "41f68d806545a3a13dd50538f04b79904f9c331669f225517f730a60a7369f9e", checked := Try.checked }
namespace Rows
def none {H : Type} : Left H := { results := [], args := [] }

/-- 'besomlaw08.SpillCrowd': WHATEVER THE INPUT: true; the input reads as it did. -/
def spillCrowdSpec : ChangeSpec := { name := "spillCrowd", fn := fun _ => fun
  | [d] => { results := [.lit (.bool true)], args := [d] }
  | _ => none }
def spillCrowdRow : OpenClaim := { program := "ytjllfgocgehpeaa", sum := "41f68d806545a3a13dd50538f04b79904f9c331669f225517f730a60a7369f9e", func := "besom/besomlaw08.SpillCrowd", spec := "spillCrowd", unfollowed := true, recurses := true, apart := false }
def SpillCrowdSaid : Prop := spillCrowdRow.holds Try.pinned (OpenSpec.ofChange spillCrowdSpec)

/-- ITS FALSE NEIGHBOUR: 'it returns false'. Refute it at one input. -/
def spillCrowdWrong : ChangeSpec := { name := "spillCrowd", fn := fun _ => fun
  | [d] => { results := [.lit (.bool false)], args := [d] }
  | _ => none }
def SpillCrowdWrongFalsely : Prop := spillCrowdRow.holds Try.pinned (OpenSpec.ofChange spillCrowdWrong)

/-- 'besomlaw08.SpillAlone': WHATEVER THE INPUT: true; the input reads as it did. -/
def spillAloneSpec : ChangeSpec := { name := "spillAlone", fn := fun _ => fun
  | [d1, d2] => { results := [.lit (.bool true)], args := [d1, d2] }
  | _ => none }
def spillAloneRow : OpenClaim := { program := "ytjllfgocgehpeaa", sum := "41f68d806545a3a13dd50538f04b79904f9c331669f225517f730a60a7369f9e", func := "besom/besomlaw08.SpillAlone", spec := "spillAlone", unfollowed := true, recurses := true, apart := false }
def SpillAloneSaid : Prop := spillAloneRow.holds Try.pinned (OpenSpec.ofChange spillAloneSpec)

/-- ITS FALSE NEIGHBOUR: 'it returns false'. Refute it at one input. -/
def spillAloneWrong : ChangeSpec := { name := "spillAlone", fn := fun _ => fun
  | [d1, d2] => { results := [.lit (.bool false)], args := [d1, d2] }
  | _ => none }
def SpillAloneWrongFalsely : Prop := spillAloneRow.holds Try.pinned (OpenSpec.ofChange spillAloneWrong)

/-- 'besomlaw08.SpillShared': WHATEVER THE INPUT: true; the input reads as it did. -/
def spillSharedSpec : ChangeSpec := { name := "spillShared", fn := fun _ => fun
  | [d1, d2] => { results := [.lit (.bool true)], args := [d1, d2] }
  | _ => none }
def spillSharedRow : OpenClaim := { program := "ytjllfgocgehpeaa", sum := "41f68d806545a3a13dd50538f04b79904f9c331669f225517f730a60a7369f9e", func := "besom/besomlaw08.SpillShared", spec := "spillShared", unfollowed := true, recurses := true, apart := false }
def SpillSharedSaid : Prop := spillSharedRow.holds Try.pinned (OpenSpec.ofChange spillSharedSpec)

/-- ITS FALSE NEIGHBOUR: 'it returns false'. Refute it at one input. -/
def spillSharedWrong : ChangeSpec := { name := "spillShared", fn := fun _ => fun
  | [d1, d2] => { results := [.lit (.bool false)], args := [d1, d2] }
  | _ => none }
def SpillSharedWrongFalsely : Prop := spillSharedRow.holds Try.pinned (OpenSpec.ofChange spillSharedWrong)

/-- 'besomlaw08.SpillPiles': WHATEVER THE INPUT: true; the input reads as it did. -/
def spillPilesSpec : ChangeSpec := { name := "spillPiles", fn := fun _ => fun
  | [d] => { results := [.lit (.bool true)], args := [d] }
  | _ => none }
def spillPilesRow : OpenClaim := { program := "ytjllfgocgehpeaa", sum := "41f68d806545a3a13dd50538f04b79904f9c331669f225517f730a60a7369f9e", func := "besom/besomlaw08.SpillPiles", spec := "spillPiles", unfollowed := true, recurses := true, apart := false }
def SpillPilesSaid : Prop := spillPilesRow.holds Try.pinned (OpenSpec.ofChange spillPilesSpec)

/-- ITS FALSE NEIGHBOUR: 'it returns false'. Refute it at one input. -/
def spillPilesWrong : ChangeSpec := { name := "spillPiles", fn := fun _ => fun
  | [d] => { results := [.lit (.bool false)], args := [d] }
  | _ => none }
def SpillPilesWrongFalsely : Prop := spillPilesRow.holds Try.pinned (OpenSpec.ofChange spillPilesWrong)

/-- 'besomlaw08.SpillLocks': WHATEVER THE INPUT: true; the input reads as it did. -/
def spillLocksSpec : ChangeSpec := { name := "spillLocks", fn := fun _ => fun
  | [d1, d2, d3] => { results := [.lit (.bool true)], args := [d1, d2, d3] }
  | _ => none }
def spillLocksRow : OpenClaim := { program := "ytjllfgocgehpeaa", sum := "41f68d806545a3a13dd50538f04b79904f9c331669f225517f730a60a7369f9e", func := "besom/besomlaw08.SpillLocks", spec := "spillLocks", unfollowed := true, recurses := true, apart := false }
def SpillLocksSaid : Prop := spillLocksRow.holds Try.pinned (OpenSpec.ofChange spillLocksSpec)

/-- ITS FALSE NEIGHBOUR: 'it returns false'. Refute it at one input. -/
def spillLocksWrong : ChangeSpec := { name := "spillLocks", fn := fun _ => fun
  | [d1, d2, d3] => { results := [.lit (.bool false)], args := [d1, d2, d3] }
  | _ => none }
def SpillLocksWrongFalsely : Prop := spillLocksRow.holds Try.pinned (OpenSpec.ofChange spillLocksWrong)

/-- 'besomlaw08.SpillNews': WHATEVER THE INPUT: true; the input reads as it did. -/
def spillNewsSpec : ChangeSpec := { name := "spillNews", fn := fun _ => fun
  | [d1, d2] => { results := [.lit (.bool true)], args := [d1, d2] }
  | _ => none }
def spillNewsRow : OpenClaim := { program := "ytjllfgocgehpeaa", sum := "41f68d806545a3a13dd50538f04b79904f9c331669f225517f730a60a7369f9e", func := "besom/besomlaw08.SpillNews", spec := "spillNews", unfollowed := true, recurses := true, apart := false }
def SpillNewsSaid : Prop := spillNewsRow.holds Try.pinned (OpenSpec.ofChange spillNewsSpec)

/-- ITS FALSE NEIGHBOUR: 'it returns false'. Refute it at one input. -/
def spillNewsWrong : ChangeSpec := { name := "spillNews", fn := fun _ => fun
  | [d1, d2] => { results := [.lit (.bool false)], args := [d1, d2] }
  | _ => none }
def SpillNewsWrongFalsely : Prop := spillNewsRow.holds Try.pinned (OpenSpec.ofChange spillNewsWrong)

/-- 'besomlaw06.DequeThieves': WHATEVER THE INPUT: true; the input reads as it did. -/
def dequeThievesSpec : ChangeSpec := { name := "dequeThieves", fn := fun _ => fun
  | [d1, d2] => { results := [.lit (.bool true)], args := [d1, d2] }
  | _ => none }
def dequeThievesRow : OpenClaim := { program := "ytjllfgocgehpeaa", sum := "41f68d806545a3a13dd50538f04b79904f9c331669f225517f730a60a7369f9e", func := "besom/besomlaw06.DequeThieves", spec := "dequeThieves", unfollowed := true, recurses := true, apart := false }
def DequeThievesSaid : Prop := dequeThievesRow.holds Try.pinned (OpenSpec.ofChange dequeThievesSpec)

/-- ITS FALSE NEIGHBOUR: 'it returns false'. Refute it at one input. -/
def dequeThievesWrong : ChangeSpec := { name := "dequeThieves", fn := fun _ => fun
  | [d1, d2] => { results := [.lit (.bool false)], args := [d1, d2] }
  | _ => none }
def DequeThievesWrongFalsely : Prop := dequeThievesRow.holds Try.pinned (OpenSpec.ofChange dequeThievesWrong)

/-- 'besomlaw06.DequeNews': WHATEVER THE INPUT: true; the input reads as it did. -/
def dequeNewsSpec : ChangeSpec := { name := "dequeNews", fn := fun _ => fun
  | [d1, d2] => { results := [.lit (.bool true)], args := [d1, d2] }
  | _ => none }
def dequeNewsRow : OpenClaim := { program := "ytjllfgocgehpeaa", sum := "41f68d806545a3a13dd50538f04b79904f9c331669f225517f730a60a7369f9e", func := "besom/besomlaw06.DequeNews", spec := "dequeNews", unfollowed := true, recurses := true, apart := false }
def DequeNewsSaid : Prop := dequeNewsRow.holds Try.pinned (OpenSpec.ofChange dequeNewsSpec)

/-- ITS FALSE NEIGHBOUR: 'it returns false'. Refute it at one input. -/
def dequeNewsWrong : ChangeSpec := { name := "dequeNews", fn := fun _ => fun
  | [d1, d2] => { results := [.lit (.bool false)], args := [d1, d2] }
  | _ => none }
def DequeNewsWrongFalsely : Prop := dequeNewsRow.holds Try.pinned (OpenSpec.ofChange dequeNewsWrong)

/-- 'besomlaw06.DequeRooms': WHATEVER THE INPUT: true; the input reads as it did. -/
def dequeRoomsSpec : ChangeSpec := { name := "dequeRooms", fn := fun _ => fun
  | [d1, d2] => { results := [.lit (.bool true)], args := [d1, d2] }
  | _ => none }
def dequeRoomsRow : OpenClaim := { program := "ytjllfgocgehpeaa", sum := "41f68d806545a3a13dd50538f04b79904f9c331669f225517f730a60a7369f9e", func := "besom/besomlaw06.DequeRooms", spec := "dequeRooms", unfollowed := true, recurses := true, apart := false }
def DequeRoomsSaid : Prop := dequeRoomsRow.holds Try.pinned (OpenSpec.ofChange dequeRoomsSpec)

/-- ITS FALSE NEIGHBOUR: 'it returns false'. Refute it at one input. -/
def dequeRoomsWrong : ChangeSpec := { name := "dequeRooms", fn := fun _ => fun
  | [d1, d2] => { results := [.lit (.bool false)], args := [d1, d2] }
  | _ => none }
def DequeRoomsWrongFalsely : Prop := dequeRoomsRow.holds Try.pinned (OpenSpec.ofChange dequeRoomsWrong)

/-- 'besomlaw06.DequeAlone': WHATEVER THE INPUT: true; the input reads as it did. -/
def dequeAloneSpec : ChangeSpec := { name := "dequeAlone", fn := fun _ => fun
  | [d1, d2] => { results := [.lit (.bool true)], args := [d1, d2] }
  | _ => none }
def dequeAloneRow : OpenClaim := { program := "ytjllfgocgehpeaa", sum := "41f68d806545a3a13dd50538f04b79904f9c331669f225517f730a60a7369f9e", func := "besom/besomlaw06.DequeAlone", spec := "dequeAlone", unfollowed := true, recurses := true, apart := false }
def DequeAloneSaid : Prop := dequeAloneRow.holds Try.pinned (OpenSpec.ofChange dequeAloneSpec)

/-- ITS FALSE NEIGHBOUR: 'it returns false'. Refute it at one input. -/
def dequeAloneWrong : ChangeSpec := { name := "dequeAlone", fn := fun _ => fun
  | [d1, d2] => { results := [.lit (.bool false)], args := [d1, d2] }
  | _ => none }
def DequeAloneWrongFalsely : Prop := dequeAloneRow.holds Try.pinned (OpenSpec.ofChange dequeAloneWrong)

/-- 'besomlaw06.DequeShared': WHATEVER THE INPUT: true; the input reads as it did. -/
def dequeSharedSpec : ChangeSpec := { name := "dequeShared", fn := fun _ => fun
  | [d1, d2] => { results := [.lit (.bool true)], args := [d1, d2] }
  | _ => none }
def dequeSharedRow : OpenClaim := { program := "ytjllfgocgehpeaa", sum := "41f68d806545a3a13dd50538f04b79904f9c331669f225517f730a60a7369f9e", func := "besom/besomlaw06.DequeShared", spec := "dequeShared", unfollowed := true, recurses := true, apart := false }
def DequeSharedSaid : Prop := dequeSharedRow.holds Try.pinned (OpenSpec.ofChange dequeSharedSpec)

/-- ITS FALSE NEIGHBOUR: 'it returns false'. Refute it at one input. -/
def dequeSharedWrong : ChangeSpec := { name := "dequeShared", fn := fun _ => fun
  | [d1, d2] => { results := [.lit (.bool false)], args := [d1, d2] }
  | _ => none }
def DequeSharedWrongFalsely : Prop := dequeSharedRow.holds Try.pinned (OpenSpec.ofChange dequeSharedWrong)

/-- 'besomlaw06.DequeSteps': WHATEVER THE INPUT: true; the input reads as it did. -/
def dequeStepsSpec : ChangeSpec := { name := "dequeSteps", fn := fun _ => fun
  | [d] => { results := [.lit (.bool true)], args := [d] }
  | _ => none }
def dequeStepsRow : OpenClaim := { program := "ytjllfgocgehpeaa", sum := "41f68d806545a3a13dd50538f04b79904f9c331669f225517f730a60a7369f9e", func := "besom/besomlaw06.DequeSteps", spec := "dequeSteps", unfollowed := true, recurses := true, apart := false }
def DequeStepsSaid : Prop := dequeStepsRow.holds Try.pinned (OpenSpec.ofChange dequeStepsSpec)

/-- ITS FALSE NEIGHBOUR: 'it returns false'. Refute it at one input. -/
def dequeStepsWrong : ChangeSpec := { name := "dequeSteps", fn := fun _ => fun
  | [d] => { results := [.lit (.bool false)], args := [d] }
  | _ => none }
def DequeStepsWrongFalsely : Prop := dequeStepsRow.holds Try.pinned (OpenSpec.ofChange dequeStepsWrong)

/- THE SECOND FORM. 'bulk': how many values and letters a reading holds, each counted each time it is reached (what is shared counts as often as it is met; a slice's spare places count too). A statement '..UptoSaid' is the law's where the arguments, and the package variables that the reading takes, are together of bulk at most 1048576: NARROWER than '..Said'. Prove '..Said' where nothing that the law and all that it calls make is longer than what came in: it says more and counts as full. Else prove '..UptoSaid'. A law counts once. -/
mutual
def uptoBulk {H : Type} : DataW H → Nat
  | .lit (.string bytes) => bytes.length + 1
  | .lit _ => 1
  | .nil => 1
  | .ptr d => uptoBulk d + 1
  | .slice elems spare => uptoBulkAll elems + uptoBulkAll spare + 1
  | .agg parts => uptoBulkAll parts + 1
  | .iface _ d => uptoBulk d + 1
  | .map entries => uptoBulkEntries entries + 1
  | .held _ => 1
def uptoBulkAll {H : Type} : List (DataW H) → Nat
  | [] => 0
  | d :: r => uptoBulk d + uptoBulkAll r
def uptoBulkEntries {H : Type} : List (Lit × DataW H) → Nat
  | [] => 0
  | x :: r => uptoBulkEntry x + uptoBulkEntries r
def uptoBulkEntry {H : Type} : Lit × DataW H → Nat
  | (.string bytes, d) => bytes.length + uptoBulk d + 1
  | (_, d) => uptoBulk d + 1
 end
def uptoSmall : (H : Type) → List (DataW H) → Bool := fun _ ds => decide (uptoBulkAll ds ≤ 1048576)
def OpenSpec.upto (s : _root_.Go.ChangeSpec) : _root_.Go.OpenSpec := { _root_.Go.OpenSpec.ofChange s with cond := some uptoSmall }

/-- 'besomlaw08.SpillCrowd', WHERE WHAT IT READS IS OF BULK AT MOST 1048576: true; the input reads as it did. -/
def spillCrowdUptoRow : OpenClaim := { program := "ytjllfgocgehpeaa", sum := "41f68d806545a3a13dd50538f04b79904f9c331669f225517f730a60a7369f9e", func := "besom/besomlaw08.SpillCrowd", spec := "spillCrowd", unfollowed := true, recurses := true, apart := false, narrowed := true }
def SpillCrowdUptoSaid : Prop := spillCrowdUptoRow.holds Try.pinned (OpenSpec.upto spillCrowdSpec)

/-- 'besomlaw08.SpillAlone', WHERE WHAT IT READS IS OF BULK AT MOST 1048576: true; the input reads as it did. -/
def spillAloneUptoRow : OpenClaim := { program := "ytjllfgocgehpeaa", sum := "41f68d806545a3a13dd50538f04b79904f9c331669f225517f730a60a7369f9e", func := "besom/besomlaw08.SpillAlone", spec := "spillAlone", unfollowed := true, recurses := true, apart := false, narrowed := true }
def SpillAloneUptoSaid : Prop := spillAloneUptoRow.holds Try.pinned (OpenSpec.upto spillAloneSpec)

/-- 'besomlaw08.SpillShared', WHERE WHAT IT READS IS OF BULK AT MOST 1048576: true; the input reads as it did. -/
def spillSharedUptoRow : OpenClaim := { program := "ytjllfgocgehpeaa", sum := "41f68d806545a3a13dd50538f04b79904f9c331669f225517f730a60a7369f9e", func := "besom/besomlaw08.SpillShared", spec := "spillShared", unfollowed := true, recurses := true, apart := false, narrowed := true }
def SpillSharedUptoSaid : Prop := spillSharedUptoRow.holds Try.pinned (OpenSpec.upto spillSharedSpec)

/-- 'besomlaw08.SpillPiles', WHERE WHAT IT READS IS OF BULK AT MOST 1048576: true; the input reads as it did. -/
def spillPilesUptoRow : OpenClaim := { program := "ytjllfgocgehpeaa", sum := "41f68d806545a3a13dd50538f04b79904f9c331669f225517f730a60a7369f9e", func := "besom/besomlaw08.SpillPiles", spec := "spillPiles", unfollowed := true, recurses := true, apart := false, narrowed := true }
def SpillPilesUptoSaid : Prop := spillPilesUptoRow.holds Try.pinned (OpenSpec.upto spillPilesSpec)

/-- 'besomlaw08.SpillLocks', WHERE WHAT IT READS IS OF BULK AT MOST 1048576: true; the input reads as it did. -/
def spillLocksUptoRow : OpenClaim := { program := "ytjllfgocgehpeaa", sum := "41f68d806545a3a13dd50538f04b79904f9c331669f225517f730a60a7369f9e", func := "besom/besomlaw08.SpillLocks", spec := "spillLocks", unfollowed := true, recurses := true, apart := false, narrowed := true }
def SpillLocksUptoSaid : Prop := spillLocksUptoRow.holds Try.pinned (OpenSpec.upto spillLocksSpec)

/-- 'besomlaw08.SpillNews', WHERE WHAT IT READS IS OF BULK AT MOST 1048576: true; the input reads as it did. -/
def spillNewsUptoRow : OpenClaim := { program := "ytjllfgocgehpeaa", sum := "41f68d806545a3a13dd50538f04b79904f9c331669f225517f730a60a7369f9e", func := "besom/besomlaw08.SpillNews", spec := "spillNews", unfollowed := true, recurses := true, apart := false, narrowed := true }
def SpillNewsUptoSaid : Prop := spillNewsUptoRow.holds Try.pinned (OpenSpec.upto spillNewsSpec)

/-- 'besomlaw06.DequeThieves', WHERE WHAT IT READS IS OF BULK AT MOST 1048576: true; the input reads as it did. -/
def dequeThievesUptoRow : OpenClaim := { program := "ytjllfgocgehpeaa", sum := "41f68d806545a3a13dd50538f04b79904f9c331669f225517f730a60a7369f9e", func := "besom/besomlaw06.DequeThieves", spec := "dequeThieves", unfollowed := true, recurses := true, apart := false, narrowed := true }
def DequeThievesUptoSaid : Prop := dequeThievesUptoRow.holds Try.pinned (OpenSpec.upto dequeThievesSpec)

/-- 'besomlaw06.DequeNews', WHERE WHAT IT READS IS OF BULK AT MOST 1048576: true; the input reads as it did. -/
def dequeNewsUptoRow : OpenClaim := { program := "ytjllfgocgehpeaa", sum := "41f68d806545a3a13dd50538f04b79904f9c331669f225517f730a60a7369f9e", func := "besom/besomlaw06.DequeNews", spec := "dequeNews", unfollowed := true, recurses := true, apart := false, narrowed := true }
def DequeNewsUptoSaid : Prop := dequeNewsUptoRow.holds Try.pinned (OpenSpec.upto dequeNewsSpec)

/-- 'besomlaw06.DequeRooms', WHERE WHAT IT READS IS OF BULK AT MOST 1048576: true; the input reads as it did. -/
def dequeRoomsUptoRow : OpenClaim := { program := "ytjllfgocgehpeaa", sum := "41f68d806545a3a13dd50538f04b79904f9c331669f225517f730a60a7369f9e", func := "besom/besomlaw06.DequeRooms", spec := "dequeRooms", unfollowed := true, recurses := true, apart := false, narrowed := true }
def DequeRoomsUptoSaid : Prop := dequeRoomsUptoRow.holds Try.pinned (OpenSpec.upto dequeRoomsSpec)

/-- 'besomlaw06.DequeAlone', WHERE WHAT IT READS IS OF BULK AT MOST 1048576: true; the input reads as it did. -/
def dequeAloneUptoRow : OpenClaim := { program := "ytjllfgocgehpeaa", sum := "41f68d806545a3a13dd50538f04b79904f9c331669f225517f730a60a7369f9e", func := "besom/besomlaw06.DequeAlone", spec := "dequeAlone", unfollowed := true, recurses := true, apart := false, narrowed := true }
def DequeAloneUptoSaid : Prop := dequeAloneUptoRow.holds Try.pinned (OpenSpec.upto dequeAloneSpec)

/-- 'besomlaw06.DequeShared', WHERE WHAT IT READS IS OF BULK AT MOST 1048576: true; the input reads as it did. -/
def dequeSharedUptoRow : OpenClaim := { program := "ytjllfgocgehpeaa", sum := "41f68d806545a3a13dd50538f04b79904f9c331669f225517f730a60a7369f9e", func := "besom/besomlaw06.DequeShared", spec := "dequeShared", unfollowed := true, recurses := true, apart := false, narrowed := true }
def DequeSharedUptoSaid : Prop := dequeSharedUptoRow.holds Try.pinned (OpenSpec.upto dequeSharedSpec)

/-- 'besomlaw06.DequeSteps', WHERE WHAT IT READS IS OF BULK AT MOST 1048576: true; the input reads as it did. -/
def dequeStepsUptoRow : OpenClaim := { program := "ytjllfgocgehpeaa", sum := "41f68d806545a3a13dd50538f04b79904f9c331669f225517f730a60a7369f9e", func := "besom/besomlaw06.DequeSteps", spec := "dequeSteps", unfollowed := true, recurses := true, apart := false, narrowed := true }
def DequeStepsUptoSaid : Prop := dequeStepsUptoRow.holds Try.pinned (OpenSpec.upto dequeStepsSpec)

end Rows
end Go.Proofs.Ytjllfgocgehpeaa
