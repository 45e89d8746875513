/-
  One text.
-/
import Derived.Test.YtodofogcincleaaGreatDoorMNh
import Derived.Test.YtodofogcincleaaGreatDoorMCa
set_option linter.all false
set_option maxRecDepth 100000
namespace NP
open NQ Go
def dF(z:aB)(n:Bs):Bool:=z.sets.any λs=>s.set.name==n
end NP
namespace Go.Proofs.YtodofogcincleaaGreatDoor
open NQ Go NP Go.RowKit
end Go.Proofs.YtodofogcincleaaGreatDoor
