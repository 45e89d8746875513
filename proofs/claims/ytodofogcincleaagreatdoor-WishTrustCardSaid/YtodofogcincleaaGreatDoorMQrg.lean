/-
  Merged texts.
-/
import Derived.Test.YtodofogcincleaaGreatDoorMQt
import Derived.OrdersIn
import Derived.TacticsIn
import Derived.Sort.LoopGhostIn
import Derived.Test.YtodofogcincleaaGreatDoorRgM
set_option linter.all false
namespace NQ
open Go Go.RowKit
def nm(o:Nat)(l:List Nat)(s:Nat):Nat:=match dg s l with|true=>s+o|false=>s
section
variable {w:World} {O L L' :Nat->Prop} {σ σ' :Nat->Value} {o:Nat} {l:List Nat}
end
def bH(ys:List Nat)(d:Option Nat):Bool:=match d with|some d=> !(dg d ys)|none=>true
end NQ
