/-
  One text.
-/
import Derived.Test.YtmaepddmaghpjaaGreatDoorLraM
import Derived.Test.YtmaepddmaghpjaaGreatDoorMCa
set_option linter.all false
set_option maxRecDepth 100000
namespace NP
open NQ Go
def ie(z:aF)(n:Bs):Bool:=z.sets.any λs=>s.set.name==n
end NP
namespace Go.Proofs.YtmaepddmaghpjaaGreatDoor
open NQ Go NP Go.RowKit
end Go.Proofs.YtmaepddmaghpjaaGreatDoor
