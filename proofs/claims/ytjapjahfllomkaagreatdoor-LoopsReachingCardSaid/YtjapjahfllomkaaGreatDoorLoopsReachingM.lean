/-
  The law LoopsReaching: the given card, from the walk of its text. For every input; record.rules as the program's text lays it.
-/
import Derived.Test.YtjapjahfllomkaaGreatDoorAbM
import Derived.Test.YtjapjahfllomkaaGreatDoorCards
import Derived.Test.YtjapjahfllomkaaGreatDoorTie
import Derived.Test.YtjapjahfllomkaaGreatDoorKfM
import Derived.Test.YtjapjahfllomkaaGreatDoorLoopsReachingAM
import Derived.Test.YtjapjahfllomkaaGreatDoorLoopsReachingCM
import Derived.WalkKit
import Derived.ProofKit
import Derived.OpenShut
import Derived.ChangeOld
import Derived.Below
import Derived.Carry
import Derived.Deep.DeepHandedRow
import Derived.Lib.LaidTab
import Derived.SevenTiedAt
set_option linter.all false
namespace Go.Proofs.YtjapjahfllomkaaGreatDoor.loopsReaching
open Go.ChangeShapes Go.WideShapes Go.ChangeAt Go.RowKit NP NQ
set_option maxRecDepth 100000
theorem card:Rows.LoopsReachingCardSaid :=
 Claim7.holds_tied_plain_at .later [] _ _ _ _ said (fun _ h=>by cases h) (by as_aux_lemma=>kernel_rfl) (fun _ h=>by cases h) loopsReaching_row_tie rfl ⟨rfl,rfl⟩ (by as_aux_lemma=>kernel_rfl) rfl plain (by as_aux_lemma=>kernel_rfl)
#print axioms card
end Go.Proofs.YtjapjahfllomkaaGreatDoor.loopsReaching
