/-
  The law LoopsAliases: the given card, from the walk of its text. For every input; record.rules as the program's text lays it.
-/
import Derived.Test.YtcecidfnchcagaaGreatDoorAbM
import Derived.Test.YtcecidfnchcagaaGreatDoorCards
import Derived.Test.YtcecidfnchcagaaGreatDoorTie
import Derived.Test.YtcecidfnchcagaaGreatDoorKfM
import Derived.Test.YtcecidfnchcagaaGreatDoorLoopsAliasesAM
import Derived.Test.YtcecidfnchcagaaGreatDoorLoopsAliasesCM
import Derived.WalkKit
import Derived.ProofKit
import Derived.OpenShut
import Derived.ChangeOld
import Derived.Below
import Derived.Carry
import Derived.Deep.DeepHandedRow
import Derived.Lib.LaidTab
import Derived.SevenTiedAt
set_option linter.all false
namespace Go.Proofs.YtcecidfnchcagaaGreatDoor.loopsAliases
open Go.ChangeShapes Go.WideShapes Go.ChangeAt Go.RowKit NP NQ
set_option maxRecDepth 100000
theorem card:Rows.LoopsAliasesCardSaid :=
 Claim7.holds_tied_plain_at .later [] _ _ _ _ said (fun _ h=>by cases h) (by as_aux_lemma=>kernel_rfl) (fun _ h=>by cases h) loopsAliases_row_tie rfl ⟨rfl,rfl⟩ (by as_aux_lemma=>kernel_rfl) rfl plain (by as_aux_lemma=>kernel_rfl)
#print axioms card
end Go.Proofs.YtcecidfnchcagaaGreatDoor.loopsAliases
