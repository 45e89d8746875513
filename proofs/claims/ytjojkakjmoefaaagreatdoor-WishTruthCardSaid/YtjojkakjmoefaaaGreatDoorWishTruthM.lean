/-
  One text.
-/
import Derived.Test.YtjojkakjmoefaaaGreatDoorWishTruthCM
set_option linter.all false
set_option maxRecDepth 100000
namespace Go.Proofs.YtjojkakjmoefaaaGreatDoor.wishTruth
open Go.ChangeShapes Go.WideShapes Go.ChangeAt Go.RowKit NQ
theorem card:Rows.WishTruthCardSaid :=
 Claim7.holds_tied_plain_at .later [] _ _ _ _ said (λ_ h=>by cases h) (by as_aux_lemma=>kernel_rfl) (λ_ h=>by cases h) wishTruth_row_tie rfl ⟨rfl,rfl⟩ (by as_aux_lemma=>kernel_rfl) rfl plain (by as_aux_lemma=>kernel_rfl)
#print axioms card
