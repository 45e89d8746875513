/-
  One text.
-/
import Derived.Test.YtodofogcincleaaGreatDoorWishSealedAM
import Derived.Test.YtodofogcincleaaGreatDoorWishSealedBM
set_option linter.all false
namespace Go.Proofs.YtodofogcincleaaGreatDoor.wishSealed
open Go.ChangeShapes Go.WideShapes Go.ChangeAt Go.RowKit NP NQ
set_option maxRecDepth 100000
theorem said:Rows.WishSealedSaid :=
 OpenClaim.holds_of_cond 3 Tryz.f3 rfl rfl rfl rfl rfl rfl rfl ⟨rfl,rfl,rfl,rfl,rfl⟩ rfl rfl rfl rfl rfl (by kernel_rfl) Tryz.func3 facts
  (of_decide_eq_true (by kernel_rfl)) (by unfold Func.isWrapper;first|(rw[if_pos (by decide +kernel)];kernel_rfl)|(rw[if_neg (by decide +kernel)];exact⟨rfl,rfl⟩))
  (λos started H enc _ F=>by rw[OpenClaim.pre_eq_preRow];exact lifted os started H enc F)
end Go.Proofs.YtodofogcincleaaGreatDoor.wishSealed
