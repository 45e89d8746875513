/-
  One text.
-/
import Derived.Test.YtmaepddmaghpjaaGreatDoorCards
import Derived.Test.YtmaepddmaghpjaaGreatDoorTie
import Derived.Test.YtmaepddmaghpjaaGreatDoorKfM
import Derived.ProofKit
import Derived.Carry
import Derived.Deep.DeepHandedRow
import Derived.Lib.LaidTab
import Derived.SevenTiedAt
set_option linter.all false
namespace Go.Proofs.YtmaepddmaghpjaaGreatDoor.lameShown
open Go.ChangeShapes Go.WideShapes Go.ChangeAt Go.RowKit NP NQ
set_option maxRecDepth 100000
set_option maxHeartbeats 8000000 in
theorem facts:joinedFacts Tryz.prog 3 Tryz.f3 (OpenSpec.ofChange Rows.lameShownSpec).bare Rows.lameShownRow=true:=by
 unfold joinedFacts;simp only[ay]
 repeat' apply And.intro
 all_goals (as_aux_lemma=>kernel_rfl)
end Go.Proofs.YtmaepddmaghpjaaGreatDoor.lameShown
