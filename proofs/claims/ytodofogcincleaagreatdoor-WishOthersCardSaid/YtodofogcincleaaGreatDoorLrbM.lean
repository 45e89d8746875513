/-
  One text.
-/
import Derived.Test.YtodofogcincleaaGreatDoorLraM
import Derived.Test.YtodofogcincleaaGreatDoorMCa
set_option linter.all false
set_option maxRecDepth 100000
namespace NP
open NQ Go
def dB(z:aD)(n:Bs):Bool:=z.sets.any λs=>s.set.name==n
theorem Ld{s:Bs}(h:aQ s=true)(x:Bs)(hx:x∈bU s):x.length<=60:=by
 unfold bU at hx;split at hx
 . cases hx
 . exact Nat.le_trans (kQ s x hx) (dZ h)
end NP
namespace Go.Proofs.YtodofogcincleaaGreatDoor
open NQ Go NP Go.RowKit
end Go.Proofs.YtodofogcincleaaGreatDoor
