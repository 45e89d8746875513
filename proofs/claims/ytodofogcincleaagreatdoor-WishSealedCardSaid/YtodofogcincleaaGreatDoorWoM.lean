/-
  One text.
-/
import Derived.Test.YtodofogcincleaaGreatDoorMPl
import Derived.Test.YtodofogcincleaaGreatDoorRgM
import Derived.OwnWalk
import Derived.Laws.AppendOwn
import Derived.Laws.OwnMore
set_option linter.all false
namespace NP
open Go Go.RowKit
def strCells(ls:List Bs):List Value:=ls.map λx=>Value.string (mk x)
theorem wq{w0 w w' :World}{o:Obj}(h0:Below w0.heap.size w0 w)(hg:(w.alloc o).grownBy w' (some w.heap.size)):Below w.heap.size w w' /\Below w0.heap.size w0 w' :=by
 have h1:Below w.heap.size w w' :=((Below.refl _ w).alloc (Nat.le_refl _) o).grown hg (by simp) (λk e=>by cases e;exact Nat.le_refl _);exact⟨h1,h0.trans (h1.mono h0.size)⟩
def Strs(W:World)(v:Value)(ls:List Bs):Prop :=
 (∃a c,v= .slice a 0 c/\ls=[])\/ ∃B off cap,v= .slice (some ⟨B,off,none⟩) ls.length cap/\ls.length<=cap/\B<W.heap.size/\ ∀(j:Nat) x,ls[j]? =some x->W.cell? ⟨B,off+j,none⟩=some (.string (mk x))
theorem Strs.below{W W' :World}{v:Value}{ls:List Bs}(h:Strs W v ls)(hb:Below W.heap.size W W'):Strs W' v ls:=by
 rcases h with h|⟨B,off,cap,h1,h2,h3,h4⟩
 . exact .inl h
 . exact .inr ⟨B,off,cap,h1,h2,Nat.lt_of_lt_of_le h3 hb.size,λj x hj=>(hb.cell (p:=⟨B,off+j,none⟩) h3).trans (h4 j x hj)⟩
def dZ(W:World)(B:Nat)(t:TypeId)(cs:List Value):Prop:=W.heap[B]? =some (.cells cs.toArray t (0,0))
theorem dZ.lt{W:World}{B:Nat}{t:TypeId}{cs:List Value}(h:dZ W B t cs):B<W.heap.size:=(bj.1 h).1
theorem dZ.cell{W:World}{B:Nat}{t:TypeId}{cs:List Value}(h:dZ W B t cs)(i:Nat):W.cell? ⟨B,i,none⟩=cs[i]? :=by
 simp[World.cell?,show W.heap[B]? =_ from h]
theorem dZ.frozen{W:World}{B:Nat}{t:TypeId}{cs:List Value}(h:dZ W B t cs)(i:Nat):W.frozen? ⟨B,i,none⟩=false:=by
 simp[World.frozen?,show W.heap[B]? =_ from h]
theorem dZ.set{W:World}{B:Nat}{t:TypeId}{cs:List Value}(h:dZ W B t cs)(i:Nat)(v:Value):dZ (W.setCell ⟨B,i,none⟩ v) B t (cs.set i v):=by
 obtain⟨hlt,hk⟩:=bj.1 h;show(W.heap.modify B _)[B]? =_
 rw[Array.getElem?_eq_getElem (by rw[Array.size_modify];exact hlt),Array.getElem_modify_self,hk];simp
theorem dZ.setOther{W:World}{B b i:Nat}{t:TypeId}{cs:List Value}(h:dZ W B t cs)(hb:B≠b)(v:Value):dZ (W.setCell ⟨b,i,none⟩ v) B t cs:=(Below.heap_setCell W ⟨b,i,none⟩ v B hb).trans h
theorem dZ.gI{d b:Nat}{A B:World}{t:TypeId}{cs:List Value}(h:dZ A b t cs)(hk:dx d A B)(hb:b<d):dZ B b t cs:=(hk.block b h.lt (by omega) (by omega)).trans h
theorem dZ.new(W:World)(t:TypeId)(cs:List Value):dZ (W.alloc (.cells cs.toArray t)) W.heap.size t cs:=World.alloc_heap_new W _
theorem dZ.below{B0 b:Nat}{A B:World}{t:TypeId}{cs:List Value}(h:dZ A b t cs)(hk:Below B0 A B)(hb:b<B0):dZ B b t cs:=(hk.block b hb).trans h
theorem dZ.jG{b l:Nat}{A:World}{t:TypeId}{cs:List Value}(h:dZ A b t cs)(hb:b≠l)(o:Obj):dZ (A.putObj l o) b t cs:=(World.putObj_heap_other hb).trans h
end NP
