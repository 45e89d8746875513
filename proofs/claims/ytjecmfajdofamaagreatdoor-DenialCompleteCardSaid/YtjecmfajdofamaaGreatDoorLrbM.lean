/-
  Reference 07 on plain data: Add, Cover, Has, Exists, Closest, Wildcard.
-/
import Derived.Test.YtjecmfajdofamaaGreatDoorLraM
import Derived.Test.YtjecmfajdofamaaGreatDoorMCa
import Derived.Test.YtjecmfajdofamaaGreatDoorMRb
set_option linter.unusedSimpArgs false
set_option linter.unusedVariables false
set_option maxRecDepth 100000
namespace NP
open NQ Go
def existsR (z : Zone) (n : Bs) : Bool := z.sets.any fun s => underN s.set.name n
end NP
namespace Go.Proofs.YtjecmfajdofamaaGreatDoor
open NQ Go NP Go.RowKit

end Go.Proofs.YtjecmfajdofamaaGreatDoor
