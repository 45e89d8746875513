/-
  The law LoopsAliases: the given card, from the walk of its text. For every input; record.rules as the program's text lays it.
-/
import Derived.Test.YtcecidfnchcagaaGreatDoorAbM
import Derived.Test.YtcecidfnchcagaaGreatDoorCards
import Derived.Test.YtcecidfnchcagaaGreatDoorTie
import Derived.Test.YtcecidfnchcagaaGreatDoorKfM
import Derived.WalkKit
import Derived.ProofKit
import Derived.OpenShut
import Derived.ChangeOld
import Derived.Below
import Derived.Carry
import Derived.Deep.DeepHandedRow
import Derived.Lib.LaidTab
import Derived.SevenTiedAt
set_option linter.all false
namespace Go.Proofs.YtcecidfnchcagaaGreatDoor.loopsAliases
open Go.ChangeShapes Go.WideShapes Go.ChangeAt Go.RowKit NP NQ
set_option maxRecDepth 100000
set_option maxHeartbeats 8000000 in
theorem facts:joinedFacts Tryz.prog 13 Tryz.f13 (OpenSpec.ofChange Rows.loopsAliasesSpec).bare Rows.loopsAliasesRow=true:=by
 unfold joinedFacts;simp only[aN]
 repeat' apply And.intro
 all_goals (as_aux_lemma=>kernel_rfl)
end Go.Proofs.YtcecidfnchcagaaGreatDoor.loopsAliases
