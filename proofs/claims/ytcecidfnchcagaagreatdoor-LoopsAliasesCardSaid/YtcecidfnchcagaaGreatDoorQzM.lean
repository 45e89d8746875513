/-
  Rows of one's own that are changed in place: cells.
-/
import Derived.Test.YtcecidfnchcagaaGreatDoorAbM
import Derived.Test.YtcecidfnchcagaaGreatDoorMQt
import Derived.Laws.IdiomCopy
import Derived.Laws.CopyRow
set_option linter.all false
namespace NQ
open Go Go.RowKit
def RowsIn(w:World)(O:Nat->Prop)(sz:Nat)(rows:List (List D))(xs:List Value):Prop :=
 ∀i r j d,rows[i]? =some r->r[j]? =some d-> ∃u,xs[i*sz+j]? =some u/\Rep w O d u
section
variable {w:World} {O:Nat->Prop} {sz:Nat} {rows rows2:List (List D)} {xs ys:List Value}
end
end NQ
