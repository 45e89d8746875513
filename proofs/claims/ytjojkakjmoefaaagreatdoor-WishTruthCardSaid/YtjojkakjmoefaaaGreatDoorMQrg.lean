/-
  Merged texts.
-/
import Derived.Test.YtjojkakjmoefaaaGreatDoorMQt
import Derived.OrdersIn
import Derived.TacticsIn
import Derived.Sort.LoopGhostIn
import Derived.Test.YtjojkakjmoefaaaGreatDoorRgM
set_option linter.all false

namespace NQ
open Go Go.RowKit
def nm(o:Nat)(l:List Nat)(s:Nat):Nat:=match eI s l with|true=>s+o|false=>s
section
variable {w:World} {O L L' :Nat->Prop} {σ σ' :Nat->Value} {o:Nat} {l:List Nat}
end
def bK(ys:List Nat)(d:Option Nat):Bool:=match d with|some d=> !(eI d ys)|none=>true
