/-
  One text.
-/
import Derived.Test.YtjojkakjmoefaaaGreatDoorWishTruthAM
import Derived.Test.YtjojkakjmoefaaaGreatDoorWishTruthBM
set_option linter.all false
set_option maxRecDepth 100000
namespace Go.Proofs.YtjojkakjmoefaaaGreatDoor.wishTruth
open Go.ChangeShapes Go.WideShapes Go.ChangeAt Go.RowKit NQ
theorem said:Rows.WishTruthSaid :=
 OpenClaim.holds_of_cond 3 Tryz.f3 rfl rfl rfl rfl rfl rfl rfl ⟨rfl,rfl,rfl,rfl,rfl⟩ rfl rfl rfl rfl rfl (by kernel_rfl) Tryz.func3 facts
  (of_decide_eq_true (by kernel_rfl)) (by unfold Func.isWrapper;first|(rw[if_pos (by decide +kernel)];kernel_rfl)|(rw[if_neg (by decide +kernel)];exact⟨rfl,rfl⟩))
  (λos j H enc _ F=>by rw[OpenClaim.pre_eq_preRow];exact lifted os j H enc F)
