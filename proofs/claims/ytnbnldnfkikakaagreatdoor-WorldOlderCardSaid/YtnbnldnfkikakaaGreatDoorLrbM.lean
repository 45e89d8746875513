/-
  Reference 07 on plain data: Add, Cover, Has, Exists, Closest, Wildcard.
-/
import Derived.Test.YtnbnldnfkikakaaGreatDoorLraM
import Derived.Test.YtnbnldnfkikakaaGreatDoorMCa
import Derived.Test.YtnbnldnfkikakaaGreatDoorMRb
set_option linter.all false
set_option maxRecDepth 100000
namespace NP
open NQ Go
def jv (z : aq) (n : Bs) : Bool := z.sets.any fun s => ar s.set.name n
end NP
namespace Go.Proofs.YtnbnldnfkikakaaGreatDoor
open NQ Go NP Go.RowKit
end Go.Proofs.YtnbnldnfkikakaaGreatDoor
