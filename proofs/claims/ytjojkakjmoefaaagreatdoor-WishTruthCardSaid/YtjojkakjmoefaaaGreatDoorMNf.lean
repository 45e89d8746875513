/-
  Merged texts.
-/
import Derived.Test.YtjojkakjmoefaaaGreatDoorMNc
import Derived.Laws.EntriesVeiled
set_option linter.all false
set_option maxHeartbeats 1000000
namespace Go.Proofs.YtjojkakjmoefaaaGreatDoor
open Go.RowKit
def vF{α:Type}{j:α->α->Int}(h:jP j)(p a b:List α):cQ j (p++a) (p++b)=cQ j a b:=by
 induction p with
 |nil=>rfl
 |cons x p D =>
  show cQ j (x::(p++a)) (x::(p++b))=_
  rw[cQ,if_pos<|(h.zero x x).2 rfl];exact D
def Wi(p j:List Bs)(x:Bs):cmpL (p++x::j) p=1:=by
 have:=vF dz p (x::j) [];rw[List.append_nil]at this;exact this
def Wg(p j t:List Bs)(x y:Bs)(h:Lib.compareBytes x y≠0):cmpL (p++x::j) (p++y::t)=Lib.compareBytes x y:=by
 have:=vF dz p (x::j)<|y::t;unfold cmpL;rw[this,cQ,if_neg h]
def Wh(p:List Bs)(y:Bs)(t:List Bs):cmpL p (p++y::t)= -1:=by
 have:=vF dz p []<|y::t;rw[List.append_nil]at this;exact this
def Ac{w j:World}{v u:Value}{t t' :TypeId}(D:Below ((w.alloc<|.cells #[v] t).alloc<|.cells #[u] t').heap.size ((w.alloc<|.cells #[v] t).alloc<|.cells #[u] t') j) :
 Boxed j w.heap.size t v/\Boxed j (w.heap.size+1) t' u/\Below w.heap.size w j/\w.heap.size+2<=j.heap.size:=by
 have h1:=Boxed.new (w.alloc<|.cells #[v] t) t' u;rw[World.size_alloc]at h1;refine⟨((Boxed.new w t v).alloc _).below D<|by simp;omega,h1.below D<|by simp,?_,?_⟩
 .exact(((Below.refl _ w).alloc (Nat.le_refl _) _).alloc (by simp) _).trans (D.mono<|by simp;omega)
 .have:=D.size;simp at this;omega
def cI(X U V T Y:TypeId)(w:World)(G H I J:Nat)(K:Value)(N:List ByteArray)(D:List ByteArray)(W:World):Prop :=
 (∃j,N=D++j/\yE T Y W I J j)/\(∃v,Boxed W G X v)/\(∃v,Boxed W (G+1) U v)/\Boxed W H V K/\Below w.heap.size w W
def cX(H G:TypeId)(w:World)(j:Nat)(xs D:List Bs)(c:Code)(_:List ByteArray)(W:World):Prop :=
 c= .ret/\Boxed W j H (.int .i64<|cmpL xs D)/\Boxed W (j+1) G (.int .i64 0)/\Below w.heap.size w W
def Zt{X V W U Y:TypeId}{w:World}{H I J K d:Nat}{N:Value}{T D:List ByteArray}{A B:World}(h:cI X V W U Y w H I J K N T D A)
 (hz:d+2<=A.heap.size) (j:dY d A B) (h0:H+1<d) (h8:I<d) (hm:J<d) (hr:K<d) (hw:w.heap.size<=d):cI X V W U Y w H I J K N T D B:=by
 obtain⟨⟨G,h1,Z⟩,⟨v3,h3⟩,⟨v4,h4⟩,h5,h6⟩:=h;exact⟨⟨G,h1,Z.Rn (j.block _ (by omega) (by omega)<|by omega)<|j.block _ (by omega) (by omega)<|by omega⟩,⟨v3,h3.ia j<|by omega⟩,⟨v4,h4.ia j<|by omega⟩,h5.ia j<|by omega,h6.trans<|j.below (by omega)<|by omega⟩
def Zv{J I:TypeId}{w:World}{D d:Nat}{xs H:List Bs}{c:Code}{j:List ByteArray}{A B:World}(h:cX J I w D xs H c j A)
 (V:d+2<=A.heap.size) (G:dY d A B) (h0:D+1<d) (U:w.heap.size<=d):cX J I w D xs H c j B:=by
 obtain⟨h1,K,N,T⟩:=h;exact⟨h1,K.ia G<|by omega,N.ia G<|by omega,T.trans<|G.below (by omega)<|by omega⟩
end Go.Proofs.YtjojkakjmoefaaaGreatDoor

namespace Go.Proofs.YtjojkakjmoefaaaGreatDoor
open Go.RowKit Go.Shelf
attribute [local go_sem] Oper.semAt_some
def xJ(l:List Bs):(l.map mk).map S=l:=by simp[List.map_map,Function.comp_def]
def Ie(a b:ByteArray)(w:World) :
 Calls Tryz.prog 164 #[.string a,.string b] w λe w' =>e= .returned (.tuple #[.int .i64 (dE (S a)<|S b).1,.int .i64 (dE (S a)<|S b).2])/\Below w.heap.size w w' :=by
 refine(callsIn_wide (n:=3)).1 ?_;refine callsIn_of_wp_marks Tryz.func164 rfl trivial ?_ rfl;simp only[Tryz.ntmps164,List.size_toArray,List.length_cons,List.length_nil,Nat.reduceAdd,Nat.reduceSub,Array.replicate_succ,Array.replicate_zero,List.push_toArray,List.append_toArray,List.nil_append,List.cons_append];by_cases hv:aR (S a)=true
 rotate_left
 .have hT :aR (S a)=false:=by simpa using hv
  have HR:Hid<|dE (S a) (S b)=(0,11):=by unfold Hid dE;rw[if_neg λh=>hv h.1]
  clear hv
  gi_wp2_with fail
  refine⟨trivial,(callsIn_wide.2<|cG _ _).mono ?_⟩;rintro e w1 ⟨rfl,hb⟩;obtain⟨h0,h1,hg,hJ⟩:=Ac hb;have c0:=h0.cell;have f0:=h0.frozen;have c1:=h1.cell;have f1:=h1.frozen;clear hb;rw[hT]
  gi_wp2_with fail
  refine⟨trivial,?_⟩
  gi_wp2
  have g0:=((h0.set<|.int .i64 0).setOther (c:=w.heap.size+1) (by omega)<|.int .i64 11).cell;have g1:=((h1.setOther (c:=w.heap.size) (by omega)<|.int .i64 0).set<|.int .i64 11).cell;refine⟨.tuple #[.int .i64 0,.int .i64 11],?_,?_⟩
  .simp[results,Tryz.results164,go_sem,g0,g1]
  .rw[HR.out];exact⟨rfl,(hg.set (by omega) _).set (by omega) _⟩
 by_cases hz:aR (S b)=true
 rotate_left
 .have hU :aR (S b)=false:=by simpa using hz
  have HR:Hid<|dE (S a) (S b)=(0,11):=by unfold Hid dE;rw[if_neg λh=>hz h.2]
  clear hz
  gi_wp2_with fail
  refine⟨trivial,(callsIn_wide.2<|cG _ _).mono ?_⟩;rintro e w1 ⟨rfl,hb⟩;rw[hv]
  gi_wp2_with fail
  refine⟨trivial,(callsIn_wide.2<|cG _ _).mono ?_⟩;rintro e w2 ⟨rfl,hl⟩;obtain⟨h0,h1,hg,hJ⟩:=Ac<|hb.trans<|hl.mono hb.size;have c0:=h0.cell;have f0:=h0.frozen;have c1:=h1.cell;have f1:=h1.frozen;clear hb hl;rw[hU]
  gi_wp2
  have g0:=((h0.set<|.int .i64 0).setOther (c:=w.heap.size+1) (by omega)<|.int .i64 11).cell;have g1:=((h1.setOther (c:=w.heap.size) (by omega)<|.int .i64 0).set<|.int .i64 11).cell;refine⟨.tuple #[.int .i64 0,.int .i64 11],?_,?_⟩
  .simp[results,Tryz.results164,go_sem,g0,g1]
  .rw[HR.out];exact⟨rfl,(hg.set (by omega) _).set (by omega) _⟩
 have hR:dE (S a) (S b)=(cmpL (back<|S a)<|back<|S b,0):=by unfold dE;rw[if_pos ⟨hv,hz⟩];rfl
 have hP:=gE hv;have hQ:=gE hz;rw[<- bY]at hP hQ
 gi_wp2_with fail
 refine⟨trivial,(callsIn_wide.2<|cG _ _).mono ?_⟩;rintro e w1 ⟨rfl,hb⟩;rw[hv]
 gi_wp2_with fail
 refine⟨trivial,(callsIn_wide.2<|cG _ _).mono ?_⟩;rintro e w2 ⟨rfl,hl⟩;obtain⟨h0,h1,hg,hJ⟩:=Ac<|hb.trans<|hl.mono hb.size;clear hb hl;rw[hz];clear hv hz;by_cases he:S a=S b
 .have hq:(a.toList==b.toList)=true:=by rw[eU,eU,he];simp
  have HR:Hid<|dE (S a) (S b)=(0,0):=by unfold Hid;rw[hR,he,(qL.zero _ _).2 rfl]
  have c0:=h0.cell;have f0:=h0.frozen;have c1:=h1.cell;have f1:=h1.frozen;clear he hR
  gi_wp2
  have g0:=((h0.set<|.int .i64 0).setOther (c:=w.heap.size+1) (by omega)<|.int .i64 0).cell;have g1:=((h1.setOther (c:=w.heap.size) (by omega)<|.int .i64 0).set<|.int .i64 0).cell;refine⟨.tuple #[.int .i64 0,.int .i64 0],?_,?_⟩
  .simp[results,Tryz.results164,go_sem,g0,g1]
  .rw[HR.out];exact⟨rfl,(hg.set (by omega) _).set (by omega) _⟩
 have hq:(a.toList==b.toList)=false:=by rw[eU,eU];simpa using he
 have HR:=Lib.hid hR;have HE:=Lib.hid he;clear he hR
 gi_wp2_with fail
 refine⟨trivial,(callsIn_wide.2<|Lg _ (by omega) _).mono ?_⟩;rintro e w3 ⟨rfl,hp,hs,hh⟩;have hC:=Lib.hid hh;have hD :=h0.below hs (by omega);have hE :=h1.below hs (by omega);have hF:=hg.trans (hs.mono<|by omega);clear h0 h1 hg hs hh
 gi_wp2
 obtain⟨fv,hI⟩:∃fv,Value.func (Fn.func 225) #[] #[Value.pointer<|some {block:=w2.heap.size+1,off:=0},Value.pointer<|some {block:=w2.heap.size,off:=0}]=fv:=⟨_,rfl⟩
 obtain⟨W0,hf⟩:∃W0,w3.alloc (Obj.cells #[fv] 253)=W0:=⟨_,rfl⟩
 have hh:=hC.out;have ha:W0.heap.size=w2.heap.size+3:=by rw[<- hf];simp;omega
 have ho:cI 3 49 253 4 9 w w.heap.size (w2.heap.size+2) (w2.heap.size+1) w2.heap.size fv ((back<|S b).map mk) [] W0:=by
  have hG:=Boxed.new w3 253 fv;rw[hf,hh]at hG;have hj:Below w3.heap.size w3 W0:=by rw[<- hf];exact(Below.refl _ w3).alloc (Nat.le_refl _) _
  exact⟨⟨_,rfl,hp.Rn (hj.block _<|by omega)<|hj.block _<|by omega⟩,⟨_,hD.below hj<|by omega⟩,⟨_,hE.below hj<|by omega⟩,hG,hF.trans<|hj.mono<|by omega⟩
 have hW:Hid<|w3.heap.size=w2.heap.size+2:=hh;rw[hh,hI,hf];clear hp hD hE hF hh hC;refine rF (gf:=137) (first:= #[.string a]) (lb:= #[]) rfl (enters_of Tryz.func137 (by kernel_rfl) rfl) (Cf a (by omega) w.heap.size W0) (by omega) (λA B h=>h ▸ Below.refl _ _) (λ_=>rfl)
  (cI 3 49 253 4 9 w w.heap.size (w2.heap.size+2) (w2.heap.size+1) w2.heap.size fv<|(back<|S b).map mk)
  (cX 3 49 w w.heap.size (back<|S a)<|back<|S b)
  (λpre A B h hz hk=>Zt h hz hk (by omega) (by omega) (by omega) (by omega)<|by omega) (λc pre A B h hz hk=>Zv h hz hk (by omega)<|by omega)
  (λW hk=>?start)
  (fun x => { tmps := #[.string a, .string b, undef, undef, Value.pointer<|some { block := w.heap.size, off := 0 },
        Value.pointer (some {block:=w.heap.size+1,off:=0}),Value.string a,Value.string b,
        Value.pointer (some {block:=w2.heap.size+2,off:=0}),Value.func (Fn.func 137) #[Value.string a] #[],.string x,undef,undef,undef,Value.string a,
        Value.string b,Value.string a,Value.bool true,Value.bool false,Value.bool false,Value.string b,
        Value.bool true,Value.bool false,Value.bool false,Value.string a,Value.string b,Value.bool false,
        Value.string b,fv,Value.string a,Value.func (Fn.func 137) #[Value.string a] #[],Value.func (Fn.func 137) #[Value.string a] #[],.string x,undef,undef,undef,undef,undef,undef,undef,undef,undef,undef,undef,undef,undef],defers:=[]}) ?assign ?body ?done ?stop
 case start =>
  obtain⟨⟨rest,k1,k2⟩,⟨v3,k3⟩,⟨v4,k4⟩,k5,k6⟩:=ho;exact⟨⟨rest,k1,k2.Rn (hk.block _ (by omega) (by omega)<|by omega)<|hk.block _ (by omega) (by omega)<|by omega⟩,⟨v3,k3.ia hk<|by omega⟩,⟨v4,k4.ia hk<|by omega⟩,k5.ia hk<|by omega,k6.trans<|hk.below (by omega)<|by omega⟩
 case assign =>
  intro l x W K hK
  gi_wp2
  exact hK
 case body =>
  rintro l pre x post W hx hL ⟨⟨rest,k1,k2⟩,⟨v3,k3⟩,⟨v4,k4⟩,k5,k6⟩;have HX:=Lib.hid hx;have hi:=Lib.hid k1;have hd:=Lib.hid ha;clear hx ho hq hf k1 ha;subst hI;have c5:=k5.cell
  gi_wp2_with fail
  refine⟨trivial,(CallsIn.inRound l<|callsIn_wide.2<|Rq _ _ (by omega) rest _ k2).mono ?_⟩;rintro e W' (⟨rfl,rfl,rfl⟩|⟨y,t,rfl,rfl,hS,hn⟩)
  .have c3:=k3.cell;have f3:=k3.frozen;have c4:=k4.cell;have f4:=k4.frozen
   gi_wp2
   have ha:=hd.out;refine⟨((fK.refl _ _).set (.inl<|by omega) _).set (.inl<|by omega) _,rfl,?_,(k4.setOther (by omega) _).set _,(k6.set (by omega) _).set (by omega) _⟩;have e1:cmpL (back<|S a) (back<|S b)=1:=by
    have h1:=congrArg (List.map S) HX.out;have h2:=congrArg (List.map S) hi.out;rw[xJ]at h1 h2;rw[h1,h2,List.append_nil,List.map_append];exact Wi _ _ _
   rw[e1];exact(k3.set _).setOther (by omega) _
  .have ht :=hn.boxed k3 (by omega) (by omega);have hy :=hn.boxed k4 (by omega) (by omega);have hV :=hn.boxed k5 (by omega) (by omega);have s2:fK W0.heap.size W W' :=hn.aci (by rw[hd.out];omega) (by rw[hd.out];omega);have b2:Below w.heap.size W W' :=hn.below (by omega) (by omega);have b6:=k6.trans b2;have c3:=ht.cell;have f3:=ht.frozen;have c4:=hy.cell;have f4:=hy.frozen;have r:=dz.range x.data.toList y.data.toList;clear k2 k3 k4 k5 k6 c5;by_cases hc:Lib.compareBytes x.data.toList y.data.toList=0
   .have HC:=Lib.hid hc;clear hc r
    gi_wp2_with (refine⟨trivial,?_⟩;gi_at_call 208;refine(CallsIn.inRound l<|callsIn_wide.2<|Tryz.strings_Compare _ _ _).mono ?_;rintro e w' ⟨rfl,rfl⟩;rw[HC.out])
    have hN:x=y:=Ar<|(dz.zero _ _).1 HC.out;refine⟨s2,b2,⟨t,?_,hS⟩,⟨v3,ht⟩,⟨v4,hy⟩,hV,b6⟩;rw[hi.out,hN];simp
   .have hB:Hid<|cmpL (back<|S a) (back<|S b)=Lib.compareBytes x.data.toList y.data.toList:=by
     have h1:=congrArg (List.map S) HX.out;have h2:=congrArg (List.map S) hi.out;rw[xJ]at h1 h2;unfold Hid;rw[h1,h2,List.map_append,List.map_append];exact Wg _ _ _ _ _ hc
    obtain⟨c,hA⟩:∃c,Lib.compareBytes x.data.toList y.data.toList=c:=⟨_,rfl⟩
    rw[hA]at hc hB;have hX :(c != 0)=true:=by simpa using hc
    have hM:=Lib.hid hA;clear hc hA r
    gi_wp2_with (refine⟨trivial,?_⟩;gi_at_call 208;refine(CallsIn.inRound l<|callsIn_wide.2<|Tryz.strings_Compare _ _ _).mono ?_;rintro e w' ⟨rfl,rfl⟩;rw[hM.out])
    have ha:=hd.out;refine⟨(s2.set (.inl<|by omega) _).set (.inl<|by omega) _,rfl,?_,(hy.setOther (by omega) _).set _,(b6.set (by omega) _).set (by omega) _⟩;rw[hB.out];exact(ht.set _).setOther (by omega) _
 case done =>
  rintro W hL ⟨⟨rest,k1,k2⟩,⟨v3,k3⟩,⟨v4,k4⟩,k5,k6⟩ hK;have hi:=Lib.hid k1;have hd:=Lib.hid ha;have HK:=Lib.hid hK;clear ho hf k1 ha hK;have c3:=k3.cell;have f3:=k3.frozen;have c4:=k4.cell;have f4:=k4.frozen
  gi_wp2
  have ha:=hd.out;refine⟨by simp,.inl ⟨_,_,rfl,run_takeDeferred<|od _ (by omega)<|od _ (by omega) HK.out,?_⟩⟩;have g0:=(((k3.set<|.int .i64 (-1)).setOther (c:=w.heap.size+1) (by omega)<|.int .i64 0).jU (l:=W0.heap.size) (by omega)<|.deferred none).cell;have g1:=(((k4.setOther (c:=w.heap.size) (by omega)<|.int .i64 (-1)).set<|.int .i64 0).jU (l:=W0.heap.size) (by omega)<|.deferred none).cell;have e1:cmpL (back<|S a) (back<|S b)= -1:=by
   have h2:=congrArg (List.map S) hi.out;rw[xJ,List.map_append,xJ]at h2;cases rest with
   |nil =>
    rw[List.map_nil,List.append_nil]at h2;exact absurd (Ce h2.symm) HE.out
   |cons y t=>rw[h2];exact Wh _ _ _
  refine⟨.tuple #[.int .i64 (-1),.int .i64 0],?_,?_⟩
  .simp[results,Tryz.results164,go_sem,g0,g1]
  .rw[HR.out,e1];exact⟨rfl,((k6.set (by omega) _).set (by omega) _).put (by omega) _⟩
 case stop =>
  rintro c pre W hp hL ⟨rfl,k2,k3,k4⟩ hK;have hd:=Lib.hid ha;clear ho hf ha
  gi_wp2
  have ha:=hd.out;refine⟨by simp,.inl ⟨_,_,rfl,run_takeDeferred hK,?_⟩⟩;have g0:=(k2.jU (l:=W0.heap.size) (by omega)<|.deferred none).cell;have g1:=(k3.jU (l:=W0.heap.size) (by omega)<|.deferred none).cell;refine⟨.tuple #[.int .i64<|cmpL (back<|S a)<|back<|S b,.int .i64 0],?_,?_⟩
  .simp[results,Tryz.results164,go_sem,g0,g1]
  .rw[HR.out];exact⟨rfl,k4.put (by omega) _⟩
end Go.Proofs.YtjojkakjmoefaaaGreatDoor

namespace Go.Proofs.YtjojkakjmoefaaaGreatDoor
open Go.RowKit
end Go.Proofs.YtjojkakjmoefaaaGreatDoor

namespace Go.Proofs.YtjojkakjmoefaaaGreatDoor
open Go.RowKit Go.Shelf
attribute [local go_sem] Oper.semAt_some
