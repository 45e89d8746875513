/-
  One text.
-/
import Derived.Test.YtjojkakjmoefaaaGreatDoorCards
import Derived.Test.YtjojkakjmoefaaaGreatDoorTie
import Derived.Test.YtjojkakjmoefaaaGreatDoorKgM
import Derived.ProofKit
import Derived.Carry
import Derived.Deep.DeepHandedRow
import Derived.Lib.LaidTab
import Derived.SevenTiedAt
set_option linter.all false
set_option maxHeartbeats 8000000
set_option maxRecDepth 100000
namespace Go.Proofs.YtjojkakjmoefaaaGreatDoor.wishTruth
open Go.ChangeShapes Go.WideShapes Go.ChangeAt Go.RowKit NQ
theorem facts:joinedFacts Tryz.prog 3 Tryz.f3 (OpenSpec.ofChange Rows.wishTruthSpec).bare Rows.wishTruthRow=true:=by
 unfold joinedFacts;simp only[aK]
 repeat' apply And.intro
 all_goals (as_aux_lemma=>kernel_rfl)
