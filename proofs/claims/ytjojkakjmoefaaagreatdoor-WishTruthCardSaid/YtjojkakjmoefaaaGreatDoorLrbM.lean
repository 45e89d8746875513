/-
  One text.
-/
import Derived.Test.YtjojkakjmoefaaaGreatDoorMNh
import Derived.Test.YtjojkakjmoefaaaGreatDoorMCa
set_option linter.all false
set_option maxRecDepth 100000
namespace Go.Proofs.YtjojkakjmoefaaaGreatDoor
open NQ Go.RowKit
def nY(z:ax)(n:Bs):Bool:=z.af.any λs=>bd s.set.name n
end Go.Proofs.YtjojkakjmoefaaaGreatDoor

namespace Go.Proofs.YtjojkakjmoefaaaGreatDoor
open NQ Go.RowKit
