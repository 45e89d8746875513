/-
  One text.
-/
import Derived.Test.YtjapjahfllomkaaGreatDoorCards
import Derived.Test.YtjapjahfllomkaaGreatDoorTie
import Derived.Test.YtjapjahfllomkaaGreatDoorKfM
import Derived.ProofKit
import Derived.Carry
import Derived.Deep.DeepHandedRow
import Derived.Lib.LaidTab
import Derived.SevenTiedAt
set_option linter.all false
namespace Go.Proofs.YtjapjahfllomkaaGreatDoor.lameMended
open Go.ChangeShapes Go.WideShapes Go.ChangeAt Go.RowKit NP NQ
set_option maxRecDepth 100000
set_option maxHeartbeats 8000000 in
theorem facts:joinedFacts Tryz.prog 5 Tryz.f5 (OpenSpec.ofChange Rows.lameMendedSpec).bare Rows.lameMendedRow=true:=by
 unfold joinedFacts;simp only[aB]
 repeat' apply And.intro
 all_goals (as_aux_lemma=>kernel_rfl)
end Go.Proofs.YtjapjahfllomkaaGreatDoor.lameMended
