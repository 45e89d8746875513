/-
  One text.
-/
import Derived.Test.YtjojkakjmoefaaaGreatDoorMPl
import Derived.Test.YtjojkakjmoefaaaGreatDoorRgM
import Derived.OwnWalk
import Derived.Laws.AppendOwn
import Derived.Laws.OwnMore
set_option linter.all false

namespace Go.Proofs.YtjojkakjmoefaaaGreatDoor
open Go.RowKit
def strCells(j:List Bs):List Value:=j.map λx=>Value.string<|mk x
def XO(w:World)(t:TypeId)(x:Value)(base:Nat)(j:base<=w.heap.size):(w.alloc<|.cells #[x] t).ownsRow base t 1 (.slice (some ⟨w.heap.size,0,none⟩) 1 1) 1 [x] :=
 ⟨rfl,.inr ⟨w.heap.size,1, #[x],rfl,j,World.alloc_heap_new w _,Nat.le_refl _,by simp[maxLen],rfl,rfl⟩⟩
def Hc{w:World}{base:Nat}{e:TypeId}{size n g cap:Nat}{xs:List Value}(h:w.ownsRow base e size (.slice (some ⟨g,0,none⟩) n cap) n xs){j:Nat}{u:Value}(D:xs[j]? =some u) :
 w.cell? ⟨g,j,none⟩=some u/\w.frozen? ⟨g,j,none⟩=false/\base<=g/\g<w.heap.size:=by
 rcases h.2 with ⟨h',_⟩|⟨K,H,cur,h',I,G,_,_,_,J⟩
 .cases h'
 .simp only[Value.slice.injEq,Option.some.injEq,Addr.mk.injEq,and_true,true_and]at h';obtain⟨rfl,rfl⟩:=h';rw[<- J,List.getElem?_take]at D;split at D
  .exact⟨by simp only[World.cell?,G];simpa using D,by simp[World.frozen?,G],I,(bP.1 G).1⟩
  .cases D
def Strs(W:World)(v:Value)(D:List Bs):Prop :=
 (∃a c,v= .slice a 0 c/\D=[])\/ ∃B off cap,v= .slice (some ⟨B,off,none⟩) D.length cap/\D.length<=cap/\B<W.heap.size/\ ∀(j:Nat) x,D[j]? =some x->W.cell? ⟨B,off+j,none⟩=some (.string<|mk x)
variable {W:World}{v:Value}{ls:List Bs}
def Strs.below{D:World}(h:Strs W v ls)(G:Below W.heap.size W D):Strs D v ls:=by
 rcases h with h|⟨B,off,cap,h1,h2,h3,h4⟩
 .exact .inl h
 .exact .inr ⟨B,off,cap,h1,h2,Nat.lt_of_lt_of_le h3 G.size,λj x H=>(G.cell (p:=⟨B,off+j,none⟩) h3).trans<|h4 j x H⟩
def fY(W:World)(B:Nat)(t:TypeId)(cs:List Value):Prop:=W.heap[B]? =some (.cells cs.toArray t (0,0))
variable {B:Nat}{t:TypeId}{cs:List Value}
def fY.lt(h:fY W B t cs):B<W.heap.size:=(bP.1 h).1
def fY.cell(h:fY W B t cs)(i:Nat):W.cell? ⟨B,i,none⟩=cs[i]? :=by
 simp[World.cell?,show W.heap[B]? =_ from h]
def fY.frozen(h:fY W B t cs)(i:Nat):W.frozen? ⟨B,i,none⟩=false:=by
 simp[World.frozen?,show W.heap[B]? =_ from h]
def fY.set(h:fY W B t cs)(i:Nat)(v:Value):fY (W.setCell ⟨B,i,none⟩ v) B t<|cs.set i v:=by
 obtain⟨j,D⟩:=bP.1 h;show(W.heap.modify B _)[B]? =_
 rw[Array.getElem?_eq_getElem<|by rw[Array.size_modify];exact j,Array.getElem_modify_self,D];simp
variable {b:Nat}
def fY.setOther{i:Nat}(h:fY W B t cs)(j:B≠b)(v:Value):fY (W.setCell ⟨b,i,none⟩ v) B t cs:=(Below.heap_setCell W ⟨b,i,none⟩ v B j).trans h
variable {A:World}
def fY.ia{d:Nat}{B:World}(h:fY A b t cs)(j:dY d A B)(D:b<d):fY B b t cs:=(j.block b h.lt (by omega)<|by omega).trans h
def fY.new(W:World)(t:TypeId)(cs:List Value):fY (W.alloc<|.cells cs.toArray t) W.heap.size t cs:=World.alloc_heap_new W _
def fY.below{j:Nat}{B:World}(h:fY A b t cs)(G:Below j A B)(D:b<j):fY B b t cs:=(G.block b D).trans h
def fY.jU{l:Nat}(h:fY A b t cs)(j:b≠l)(o:Obj):fY (A.putObj l o) b t cs:=(World.putObj_heap_other j).trans h
def xd{w j D:World}(h1:Below w.heap.size w j)(G:Below j.heap.size j D):Below w.heap.size w D:=h1.trans<|G.mono h1.size
def Strs.shape{n:Nat}(h:Strs W v ls)(I:ls.length=n):∃G H,v= .slice G n H/\n<=H/\ ∀k x,ls[k]? =some x-> ∃B off,G=some ⟨B,off,none⟩/\B<W.heap.size/\W.cell? ⟨B,off+k,none⟩=some (.string<|mk x):=by
 rcases h with ⟨a,c,rfl,rfl⟩|⟨B,off,cap,rfl,K,J,j⟩
 .subst I;exact⟨a,c,rfl,Nat.zero_le _,λk x D=>by simp at D⟩
 .subst I;exact⟨_,_,rfl,K,λk x D=>⟨B,off,rfl,J,j k x D⟩⟩
def LB{base:Nat}{n:Nat}(h:W.ownsRow base t 1 v n (ls.map λx=>Value.string<|mk x))(H:ls.length=n):Strs W v ls:=by
 rcases h.2 with ⟨rfl,h0⟩|⟨g,cap,cur,rfl,_,G,K,_,J,D⟩
 .subst h0;exact .inl ⟨_,_,rfl,List.length_eq_zero_iff.1 H⟩
 .refine .inr ⟨g,0,cap,by rw[H],by omega,(bP.1 G).1,λj x I=>?_⟩;have h1:(ls.map λx=>Value.string<|mk x)[j]? =some (.string<|mk x):=by rw[bc,I];rfl
  rw[<- D,List.getElem?_take]at h1;split at h1
  .simp only[World.cell?,G,Nat.zero_add];simpa using h1
  .cases h1
