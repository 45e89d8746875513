/-
  One text.
-/
import Derived.Test.YtjapjahfllomkaaGreatDoorLraM
import Derived.Test.YtjapjahfllomkaaGreatDoorMCa
set_option linter.all false
set_option maxRecDepth 100000
namespace NP
open NQ Go
def iy(z:aF)(n:Bs):Bool:=z.sets.any λs=>s.set.name==n
end NP
namespace Go.Proofs.YtjapjahfllomkaaGreatDoor
open NQ Go NP Go.RowKit
end Go.Proofs.YtjapjahfllomkaaGreatDoor
