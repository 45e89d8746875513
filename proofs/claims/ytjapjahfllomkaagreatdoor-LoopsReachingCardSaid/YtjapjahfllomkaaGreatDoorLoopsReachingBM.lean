/-
  The law LoopsReaching: the given card, from the walk of its text. For every input; record.rules as the program's text lays it.
-/
import Derived.Test.YtjapjahfllomkaaGreatDoorAbM
import Derived.Test.YtjapjahfllomkaaGreatDoorCards
import Derived.Test.YtjapjahfllomkaaGreatDoorTie
import Derived.Test.YtjapjahfllomkaaGreatDoorKfM
import Derived.WalkKit
import Derived.ProofKit
import Derived.OpenShut
import Derived.ChangeOld
import Derived.Below
import Derived.Carry
import Derived.Deep.DeepHandedRow
import Derived.Lib.LaidTab
import Derived.SevenTiedAt
set_option linter.all false
namespace Go.Proofs.YtjapjahfllomkaaGreatDoor.loopsReaching
open Go.ChangeShapes Go.WideShapes Go.ChangeAt Go.RowKit NP NQ
set_option maxRecDepth 100000
set_option maxHeartbeats 8000000 in
theorem facts:joinedFacts Tryz.prog 6 Tryz.f6 (OpenSpec.ofChange Rows.loopsReachingSpec).bare Rows.loopsReachingRow=true:=by
 unfold joinedFacts;simp only[aR]
 repeat' apply And.intro
 all_goals (as_aux_lemma=>kernel_rfl)
end Go.Proofs.YtjapjahfllomkaaGreatDoor.loopsReaching
