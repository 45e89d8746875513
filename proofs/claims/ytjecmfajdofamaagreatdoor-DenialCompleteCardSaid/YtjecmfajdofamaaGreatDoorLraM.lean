/-
  Reference 01 on plain data: Label, Split, Parts, Glue, Join.
-/
import Derived.Test.YtjecmfajdofamaaGreatDoorMNh
import Derived.Test.YtjecmfajdofamaaGreatDoorMVa
import Derived.Test.YtjecmfajdofamaaGreatDoorMQt
set_option linter.unusedSimpArgs false
set_option linter.unusedVariables false
set_option maxRecDepth 100000
namespace NP
open NQ Go
theorem nameOf_ne {l : List Bs} (h : l ≠ []) : nameOf l = joinDot l := by unfold nameOf; rw [if_neg h]
end NP
namespace Go.Proofs.YtjecmfajdofamaaGreatDoor
open NQ Go NP Go.RowKit

end Go.Proofs.YtjecmfajdofamaaGreatDoor
