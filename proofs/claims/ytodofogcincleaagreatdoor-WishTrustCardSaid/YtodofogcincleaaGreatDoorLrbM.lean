/-
  One text.
-/
import Derived.Test.YtodofogcincleaaGreatDoorLraM
import Derived.Test.YtodofogcincleaaGreatDoorMCa
set_option linter.all false
set_option maxRecDepth 100000
namespace Go.Proofs.YtodofogcincleaaGreatDoor
open NQ Go.RowKit
theorem NT{s:Bs}(h:bq s=true)(x:Bs)(hx:x∈cF s):x.length<=60:=by
 unfold cF at hx;split at hx
 .cases hx
 .exact Nat.le_trans (mz s x hx) (fo h)
end Go.Proofs.YtodofogcincleaaGreatDoor
namespace Go.Proofs.YtodofogcincleaaGreatDoor
open NQ Go.RowKit
end Go.Proofs.YtodofogcincleaaGreatDoor
