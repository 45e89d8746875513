/-
  The law LoopsAliases: the given card, from the walk of its text. For every input; record.rules as the program's text lays it.
-/
import Derived.Test.YtcecidfnchcagaaGreatDoorAbM
import Derived.Test.YtcecidfnchcagaaGreatDoorCards
import Derived.Test.YtcecidfnchcagaaGreatDoorTie
import Derived.Test.YtcecidfnchcagaaGreatDoorKfM
import Derived.Test.YtcecidfnchcagaaGreatDoorLoopsAliasesAM
import Derived.Test.YtcecidfnchcagaaGreatDoorLoopsAliasesBM
import Derived.WalkKit
import Derived.ProofKit
import Derived.OpenShut
import Derived.ChangeOld
import Derived.Below
import Derived.Carry
import Derived.Deep.DeepHandedRow
import Derived.Lib.LaidTab
import Derived.SevenTiedAt
set_option linter.all false
namespace Go.Proofs.YtcecidfnchcagaaGreatDoor.loopsAliases
open Go.ChangeShapes Go.WideShapes Go.ChangeAt Go.RowKit NP NQ
set_option maxRecDepth 100000
theorem said:Rows.LoopsAliasesSaid :=
 OpenClaim.holds_of_cond 13 Tryz.f13 rfl rfl rfl rfl rfl rfl rfl ⟨rfl,rfl,rfl,rfl,rfl⟩ rfl rfl rfl rfl rfl (by kernel_rfl) Tryz.func13 facts
  (of_decide_eq_true (by kernel_rfl)) (by unfold Func.isWrapper;first | (rw[if_pos (by decide +kernel)];kernel_rfl) | (rw[if_neg (by decide +kernel)];exact⟨rfl,rfl⟩))
  (fun os started H enc _ F=>by rw[OpenClaim.pre_eq_preRow];exact lifted os started H enc F)
end Go.Proofs.YtcecidfnchcagaaGreatDoor.loopsAliases
