/-
  The law LoopsReaching: the given card, from the walk of its text. For every input; record.rules as the program's text lays it.
-/
import Derived.Test.YtjapjahfllomkaaGreatDoorAbM
import Derived.Test.YtjapjahfllomkaaGreatDoorCards
import Derived.Test.YtjapjahfllomkaaGreatDoorTie
import Derived.Test.YtjapjahfllomkaaGreatDoorKfM
import Derived.Test.YtjapjahfllomkaaGreatDoorLoopsReachingAM
import Derived.Test.YtjapjahfllomkaaGreatDoorLoopsReachingBM
import Derived.WalkKit
import Derived.ProofKit
import Derived.OpenShut
import Derived.ChangeOld
import Derived.Below
import Derived.Carry
import Derived.Deep.DeepHandedRow
import Derived.Lib.LaidTab
import Derived.SevenTiedAt
set_option linter.all false
namespace Go.Proofs.YtjapjahfllomkaaGreatDoor.loopsReaching
open Go.ChangeShapes Go.WideShapes Go.ChangeAt Go.RowKit NP NQ
set_option maxRecDepth 100000
theorem said:Rows.LoopsReachingSaid :=
 OpenClaim.holds_of_cond 6 Tryz.f6 rfl rfl rfl rfl rfl rfl rfl ⟨rfl,rfl,rfl,rfl,rfl⟩ rfl rfl rfl rfl rfl (by kernel_rfl) Tryz.func6 facts
  (of_decide_eq_true (by kernel_rfl)) (by unfold Func.isWrapper;first | (rw[if_pos (by decide +kernel)];kernel_rfl) | (rw[if_neg (by decide +kernel)];exact⟨rfl,rfl⟩))
  (fun os started H enc _ F=>by rw[OpenClaim.pre_eq_preRow];exact lifted os started H enc F)
end Go.Proofs.YtjapjahfllomkaaGreatDoor.loopsReaching
