/-
  One text.
-/
import Derived.Test.YtodofogcincleaaGreatDoorMNf
import Derived.StillTailTactics
import Derived.Deep.QuietTactic
import Derived.BigQuiet
import Derived.Test.YtodofogcincleaaGreatDoorWoM
import Derived.Maps.AppendAt
import Derived.Laws.Concat
set_option linter.all false
namespace NP
open Go Go.RowKit
theorem BW(a b:Bs):Op.bytesLess a b=decide (Lib.compareBytes a b= -1):=by
 induction a generalizing b with
 |nil=>cases b <;> simp[Op.bytesLess,Lib.compareBytes]
 |cons x a ih =>
  cases b with
  |nil=>simp[Op.bytesLess,Lib.compareBytes]
  |cons y b =>
   unfold Op.bytesLess Lib.compareBytes;rw[ih b];by_cases h1:x<y
   . simp[h1]
   . by_cases h2:y<x
     . have:x≠y:=λe=>by subst e;exact absurd h2 (UInt8.lt_irrefl x)
       simp[h1,h2,this]
     . have:x=y:=UInt8.le_antisymm (UInt8.not_lt.1 h2) (UInt8.not_lt.1 h1);simp[this]
end NP
namespace Go.Proofs.YtodofogcincleaaGreatDoor
open Go.RowKit Go.Shelf NP
end Go.Proofs.YtodofogcincleaaGreatDoor
