/-
  One text.
-/
import Derived.Test.YtodofogcincleaaGreatDoorMPl
import Derived.Test.YtodofogcincleaaGreatDoorRgM
import Derived.OwnWalk
import Derived.Laws.AppendOwn
import Derived.Laws.OwnMore
set_option linter.all false
namespace Go.Proofs.YtodofogcincleaaGreatDoor
open Go.RowKit
def strCells(ls:List Bs):List Value:=ls.map λx=>Value.string (mk x)
theorem QN(w:World)(t:TypeId)(x:Value)(base:Nat)(hb:base<=w.heap.size):(w.alloc (.cells #[x] t)).ownsRow base t 1 (.slice (some ⟨w.heap.size,0,none⟩) 1 1) 1 [x] :=
 ⟨rfl,.inr ⟨w.heap.size,1, #[x],rfl,hb,World.alloc_heap_new w _,Nat.le_refl _,by simp[maxLen],rfl,rfl⟩⟩
theorem CS{w:World}{base:Nat}{e:TypeId}{size n g cap:Nat}{xs:List Value}(h:w.ownsRow base e size (.slice (some ⟨g,0,none⟩) n cap) n xs){j:Nat}{u:Value}(hj:xs[j]? =some u) :
 w.cell? ⟨g,j,none⟩=some u/\w.frozen? ⟨g,j,none⟩=false/\base<=g/\g<w.heap.size:=by
 rcases h.2 with ⟨h',_⟩|⟨g',hf,cur,h',hb,hg,_,_,_,ht⟩
 .cases h'
 .simp only[Value.slice.injEq,Option.some.injEq,Addr.mk.injEq,and_true,true_and]at h';obtain⟨rfl,rfl⟩:=h';rw[<- ht,List.getElem?_take]at hj;split at hj
  .exact⟨by simp only[World.cell?,hg];simpa using hj,by simp[World.frozen?,hg],hb,(bI.1 hg).1⟩
  .cases hj
def Strs(W:World)(v:Value)(ls:List Bs):Prop :=
 (∃a c,v= .slice a 0 c/\ls=[])\/ ∃B off cap,v= .slice (some ⟨B,off,none⟩) ls.length cap/\ls.length<=cap/\B<W.heap.size/\ ∀(j:Nat) x,ls[j]? =some x->W.cell? ⟨B,off+j,none⟩=some (.string (mk x))
theorem Strs.below{W W' :World}{v:Value}{ls:List Bs}(h:Strs W v ls)(hb:Below W.heap.size W W'):Strs W' v ls:=by
 rcases h with h|⟨B,off,cap,h1,h2,h3,h4⟩
 .exact .inl h
 .exact .inr ⟨B,off,cap,h1,h2,Nat.lt_of_lt_of_le h3 hb.size,λj x hj=>(hb.cell (p:=⟨B,off+j,none⟩) h3).trans (h4 j x hj)⟩
def fc(W:World)(B:Nat)(t:TypeId)(cs:List Value):Prop:=W.heap[B]? =some (.cells cs.toArray t (0,0))
theorem fc.lt{W:World}{B:Nat}{t:TypeId}{cs:List Value}(h:fc W B t cs):B<W.heap.size:=(bI.1 h).1
theorem fc.cell{W:World}{B:Nat}{t:TypeId}{cs:List Value}(h:fc W B t cs)(i:Nat):W.cell? ⟨B,i,none⟩=cs[i]? :=by
 simp[World.cell?,show W.heap[B]? =_ from h]
theorem fc.frozen{W:World}{B:Nat}{t:TypeId}{cs:List Value}(h:fc W B t cs)(i:Nat):W.frozen? ⟨B,i,none⟩=false:=by
 simp[World.frozen?,show W.heap[B]? =_ from h]
theorem fc.set{W:World}{B:Nat}{t:TypeId}{cs:List Value}(h:fc W B t cs)(i:Nat)(v:Value):fc (W.setCell ⟨B,i,none⟩ v) B t (cs.set i v):=by
 obtain⟨hh,hk⟩:=bI.1 h;show(W.heap.modify B _)[B]? =_
 rw[Array.getElem?_eq_getElem (by rw[Array.size_modify];exact hh),Array.getElem_modify_self,hk];simp
theorem fc.setOther{W:World}{B b i:Nat}{t:TypeId}{cs:List Value}(h:fc W B t cs)(hb:B≠b)(v:Value):fc (W.setCell ⟨b,i,none⟩ v) B t cs:=(Below.heap_setCell W ⟨b,i,none⟩ v B hb).trans h
theorem fc.ix{d b:Nat}{A B:World}{t:TypeId}{cs:List Value}(h:fc A b t cs)(hk:dV d A B)(hb:b<d):fc B b t cs:=(hk.block b h.lt (by omega) (by omega)).trans h
theorem fc.new(W:World)(t:TypeId)(cs:List Value):fc (W.alloc (.cells cs.toArray t)) W.heap.size t cs:=World.alloc_heap_new W _
theorem fc.below{B0 b:Nat}{A B:World}{t:TypeId}{cs:List Value}(h:fc A b t cs)(hk:Below B0 A B)(hb:b<B0):fc B b t cs:=(hk.block b hb).trans h
theorem fc.kE{b l:Nat}{A:World}{t:TypeId}{cs:List Value}(h:fc A b t cs)(hb:b≠l)(o:Obj):fc (A.putObj l o) b t cs:=(World.putObj_heap_other hb).trans h
theorem Strs.shape{W:World}{v:Value}{ls:List Bs}{n:Nat}(h:Strs W v ls)(hn:ls.length=n):∃ad cp,v= .slice ad n cp/\n<=cp/\ ∀k x,ls[k]? =some x-> ∃B off,ad=some ⟨B,off,none⟩/\B<W.heap.size/\W.cell? ⟨B,off+k,none⟩=some (.string (mk x)):=by
 rcases h with ⟨a,c,rfl,rfl⟩|⟨B,off,cap,rfl,hc,hB,ha⟩
 .subst hn;exact⟨a,c,rfl,Nat.zero_le _,λk x hk=>by simp at hk⟩
 .subst hn;exact⟨_,_,rfl,hc,λk x hk=>⟨B,off,rfl,hB,ha k x hk⟩⟩
theorem GD{W:World}{base:Nat}{t:TypeId}{v:Value}{n:Nat}{ls:List Bs}(h:W.ownsRow base t 1 v n (ls.map λx=>Value.string (mk x)))(hn:ls.length=n):Strs W v ls:=by
 rcases h.2 with ⟨rfl,h0⟩|⟨g,cap,cur,rfl,_,hg,hc,_,hi,hd⟩
 .subst h0;exact .inl ⟨_,_,rfl,List.length_eq_zero_iff.1 hn⟩
 .refine .inr ⟨g,0,cap,by rw[hn],by omega,(bI.1 hg).1,λj x hj=>?_⟩;have h1:(ls.map λx=>Value.string (mk x))[j]? =some (.string (mk x)):=by rw[bc,hj];rfl
  rw[<- hd,List.getElem?_take]at h1;split at h1
  .simp only[World.cell?,hg,Nat.zero_add];simpa using h1
  .cases h1
end Go.Proofs.YtodofogcincleaaGreatDoor
