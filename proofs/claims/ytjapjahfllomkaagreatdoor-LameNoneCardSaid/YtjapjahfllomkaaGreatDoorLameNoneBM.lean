/-
  One text.
-/
import Derived.Test.YtjapjahfllomkaaGreatDoorCards
import Derived.Test.YtjapjahfllomkaaGreatDoorTie
import Derived.Test.YtjapjahfllomkaaGreatDoorKfM
import Derived.ProofKit
import Derived.Carry
import Derived.Deep.DeepHandedRow
import Derived.Lib.LaidTab
import Derived.SevenTiedAt
set_option linter.all false
namespace Go.Proofs.YtjapjahfllomkaaGreatDoor.lameNone
open Go.ChangeShapes Go.WideShapes Go.ChangeAt Go.RowKit NP NQ
set_option maxRecDepth 100000
set_option maxHeartbeats 8000000 in
theorem facts:joinedFacts Tryz.prog 9 Tryz.f9 (OpenSpec.ofChange Rows.lameNoneSpec).bare Rows.lameNoneRow=true:=by
 unfold joinedFacts;simp only[aB]
 repeat' apply And.intro
 all_goals (as_aux_lemma=>kernel_rfl)
end Go.Proofs.YtjapjahfllomkaaGreatDoor.lameNone
