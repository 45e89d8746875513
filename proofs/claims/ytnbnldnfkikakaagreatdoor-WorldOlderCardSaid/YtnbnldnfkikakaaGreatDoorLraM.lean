/-
  Reference 01 on plain data: Label, Split, Parts, Glue, Join.
-/
import Derived.Test.YtnbnldnfkikakaaGreatDoorMNh
import Derived.Test.YtnbnldnfkikakaaGreatDoorMVa
import Derived.Test.YtnbnldnfkikakaaGreatDoorMQt
set_option linter.all false
set_option maxRecDepth 100000
namespace NP
open NQ Go
theorem C5 {l : List Bs} (h : l ≠ []) : nameOf l = bB l := by unfold nameOf; rw [if_neg h]
end NP
namespace Go.Proofs.YtnbnldnfkikakaaGreatDoor
open NQ Go NP Go.RowKit
end Go.Proofs.YtnbnldnfkikakaaGreatDoor
