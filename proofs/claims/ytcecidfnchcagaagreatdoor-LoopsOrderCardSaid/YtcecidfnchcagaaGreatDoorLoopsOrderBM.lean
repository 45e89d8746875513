/-
  The law LoopsOrder: the given card, from the walk of its text. For every input; record.rules as the program's text lays it.
-/
import Derived.Test.YtcecidfnchcagaaGreatDoorCards
import Derived.Test.YtcecidfnchcagaaGreatDoorTie
import Derived.Test.YtcecidfnchcagaaGreatDoorKfM
import Derived.WalkKit
import Derived.ProofKit
import Derived.OpenShut
import Derived.ChangeOld
import Derived.Below
import Derived.Carry
import Derived.Deep.DeepHandedRow
import Derived.Lib.LaidTab
import Derived.SevenTiedAt
set_option linter.all false
namespace Go.Proofs.YtcecidfnchcagaaGreatDoor.loopsOrder
open Go.ChangeShapes Go.WideShapes Go.ChangeAt Go.RowKit NP NQ
set_option maxRecDepth 100000
set_option maxHeartbeats 8000000 in
theorem facts:joinedFacts Tryz.prog 8 Tryz.f8 (OpenSpec.ofChange Rows.loopsOrderSpec).bare Rows.loopsOrderRow=true:=by
 unfold joinedFacts;simp only[Bool.and_eq_true]
 repeat' apply And.intro
 all_goals (as_aux_lemma=>kernel_rfl)
end Go.Proofs.YtcecidfnchcagaaGreatDoor.loopsOrder
