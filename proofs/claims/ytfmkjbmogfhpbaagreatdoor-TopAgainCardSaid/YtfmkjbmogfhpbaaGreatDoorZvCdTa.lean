/-
  Our own.
-/
import Derived.Test.YtfmkjbmogfhpbaaGreatDoorZv6
import Derived.Test.YtfmkjbmogfhpbaaGreatDoorTie
import Derived.Test.YtfmkjbmogfhpbaaGreatDoorCards
import Derived.SevenTiedAt
import Derived.Test.YtfmkjbmogfhpbaaGreatDoorRows
import Derived.ChangeArms
import Derived.WalkKit
import Derived.ProofKit
import Derived.OpenShut
import Derived.ChangeOld
import Derived.Below
import Derived.SizedLaws
import Derived.Carry
import Derived.Lib.SmallJoins
import Derived.Laws.StructEq
import Derived.Tactics
import Derived.Laws.Slices
import Derived.Deep.Quiet
import Derived.IntWalk
import Derived.Shelf.Abstract
import Derived.Laws.Entries
import Derived.Laws.Rows
import Derived.TacticsIn
import Derived.OrdersIn
import Derived.KernelRfl
import Derived.RangeFuncStops
import Derived.RangeFuncLeaves
import Derived.LoopNIn
import Derived.Test.YtfmkjbmogfhpbaaGreatDoorProg
import Derived.LaidLaws
import Derived.Handed
import Derived.Lay
import Derived.MakeChecks
import Derived.Laws.Shifts
import Derived.Laws.Bits64b
import Derived.Shelf.Bits.Mul64
import Derived.Maps.Range
import Derived.Maps.Views
set_option linter.unusedVariables false
set_option linter.unusedSimpArgs false
namespace Go.Proofs.YtfmkjbmogfhpbaaGreatDoor
open Go
theorem topAgainCard_holds : Rows.TopAgainCardSaid :=
  Claim7.holds_tied_plain_at .later [] [.data] true (true, "305bb284db5cd0502c626c3db9abb070290a4c9c76f37517e2408058e87fbefb") false
    topAgain_holds (fun _ h => by cases h) (by kernel_rfl) (fun _ h => by cases h) topAgain_row_tie rfl ⟨rfl, rfl⟩ (by kernel_rfl) rfl
    (fun f fn hf hfn => by
      obtain rfl : f = 4 := Option.some.inj ((show Tryz.prog.funcNamed "besom/besomtop.TopAgain" = some 4 by kernel_rfl).symm.trans hf) |>.symm
      obtain rfl : fn = Tryz.f4 := (Option.some.inj (Tryz.func4.symm.trans hfn)).symm
      exact ⟨by kernel_rfl, fun j t ht => by
        rw [Tryz.params4] at ht
        have h3 : t = 25 ∨ t = 27 ∨ t = 28 := by
          rcases j with _ | _ | _ | j
          · exact .inl (by simpa using ht.symm)
          · exact .inr (.inl (by simpa using ht.symm))
          · exact .inr (.inr (by simpa using ht.symm))
          · simp at ht
        rcases h3 with rfl | rfl | rfl
        · exact (show Tryz.prog.wantsStandIn 25 = false by kernel_rfl)
        · exact (show Tryz.prog.wantsStandIn 27 = false by kernel_rfl)
        · exact (show Tryz.prog.wantsStandIn 28 = false by kernel_rfl)⟩)
    (by kernel_rfl)
#print axioms topAgainCard_holds
end Go.Proofs.YtfmkjbmogfhpbaaGreatDoor
