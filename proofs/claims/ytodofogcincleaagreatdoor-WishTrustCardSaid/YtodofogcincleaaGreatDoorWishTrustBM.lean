/-
  One text.
-/
import Derived.Test.YtodofogcincleaaGreatDoorCards
import Derived.Test.YtodofogcincleaaGreatDoorTie
import Derived.Test.YtodofogcincleaaGreatDoorKgM
import Derived.ProofKit
import Derived.Carry
import Derived.Deep.DeepHandedRow
import Derived.Lib.LaidTab
import Derived.SevenTiedAt
set_option linter.all false
set_option maxHeartbeats 8000000
set_option maxRecDepth 100000
namespace Go.Proofs.YtodofogcincleaaGreatDoor.wishTrust
open Go.ChangeShapes Go.WideShapes Go.ChangeAt Go.RowKit NQ
theorem facts:joinedFacts Tryz.prog 5 Tryz.f5 (OpenSpec.ofChange Rows.wishTrustSpec).bare Rows.wishTrustRow=true:=by
 unfold joinedFacts;simp only[aU]
 repeat' apply And.intro
 all_goals (as_aux_lemma=>kernel_rfl)
end Go.Proofs.YtodofogcincleaaGreatDoor.wishTrust
