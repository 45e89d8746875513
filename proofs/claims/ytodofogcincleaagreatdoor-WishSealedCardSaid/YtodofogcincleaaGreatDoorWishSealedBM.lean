/-
  One text.
-/
import Derived.Test.YtodofogcincleaaGreatDoorCards
import Derived.Test.YtodofogcincleaaGreatDoorTie
import Derived.Test.YtodofogcincleaaGreatDoorKgM
import Derived.ProofKit
import Derived.Carry
import Derived.Deep.DeepHandedRow
import Derived.Lib.LaidTab
import Derived.SevenTiedAt
set_option linter.all false
namespace Go.Proofs.YtodofogcincleaaGreatDoor.wishSealed
open Go.ChangeShapes Go.WideShapes Go.ChangeAt Go.RowKit NP NQ
set_option maxRecDepth 100000
set_option maxHeartbeats 8000000 in
theorem facts:joinedFacts Tryz.prog 3 Tryz.f3 (OpenSpec.ofChange Rows.wishSealedSpec).bare Rows.wishSealedRow=true:=by
 unfold joinedFacts;simp only[aH]
 repeat' apply And.intro
 all_goals (as_aux_lemma=>kernel_rfl)
end Go.Proofs.YtodofogcincleaaGreatDoor.wishSealed
