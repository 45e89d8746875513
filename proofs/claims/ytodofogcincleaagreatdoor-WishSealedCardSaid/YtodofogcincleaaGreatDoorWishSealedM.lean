/-
  One text.
-/
import Derived.Test.YtodofogcincleaaGreatDoorWishSealedCM
set_option linter.all false
namespace Go.Proofs.YtodofogcincleaaGreatDoor.wishSealed
open Go.ChangeShapes Go.WideShapes Go.ChangeAt Go.RowKit NP NQ
set_option maxRecDepth 100000
theorem card:Rows.WishSealedCardSaid :=
 Claim7.holds_tied_plain_at .later [] _ _ _ _ said (λ_ h=>by cases h) (by as_aux_lemma=>kernel_rfl) (λ_ h=>by cases h) wishSealed_row_tie rfl ⟨rfl,rfl⟩ (by as_aux_lemma=>kernel_rfl) rfl plain (by as_aux_lemma=>kernel_rfl)
#print axioms card
end Go.Proofs.YtodofogcincleaaGreatDoor.wishSealed
