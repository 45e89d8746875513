/-
  One text.
-/
import Derived.Test.YtodofogcincleaaGreatDoorWishTrustAM
import Derived.Test.YtodofogcincleaaGreatDoorWishTrustBM
set_option linter.all false
set_option maxRecDepth 100000
namespace Go.Proofs.YtodofogcincleaaGreatDoor.wishTrust
open Go.ChangeShapes Go.WideShapes Go.ChangeAt Go.RowKit NQ
theorem said:Rows.WishTrustSaid :=
 OpenClaim.holds_of_cond 5 Tryz.f5 rfl rfl rfl rfl rfl rfl rfl ⟨rfl,rfl,rfl,rfl,rfl⟩ rfl rfl rfl rfl rfl (by kernel_rfl) Tryz.func5 facts
  (of_decide_eq_true (by kernel_rfl)) (by unfold Func.isWrapper;first|(rw[if_pos (by decide +kernel)];kernel_rfl)|(rw[if_neg (by decide +kernel)];exact⟨rfl,rfl⟩))
  (λos started H enc _ F=>by rw[OpenClaim.pre_eq_preRow];exact lifted os started H enc F)
end Go.Proofs.YtodofogcincleaaGreatDoor.wishTrust
