/-
  Reference 07 on plain data: Add, Cover, Has, Exists, Closest, Wildcard.
-/
import Derived.Test.YtcecidfnchcagaaGreatDoorMNh
import Derived.Test.YtcecidfnchcagaaGreatDoorMVa
import Derived.Test.YtcecidfnchcagaaGreatDoorMQt
import Derived.Test.YtcecidfnchcagaaGreatDoorMCa
import Derived.Test.YtcecidfnchcagaaGreatDoorMRb
set_option linter.all false
set_option maxRecDepth 100000
namespace NP
open NQ Go
def gq(z:aA)(n:Bs):Bool:=z.sets.any fun s=>s.set.name==n
end NP
namespace Go.Proofs.YtcecidfnchcagaaGreatDoor
open NQ Go NP Go.RowKit
end Go.Proofs.YtcecidfnchcagaaGreatDoor
