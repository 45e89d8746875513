/-
  Merged texts.
-/
import Derived.Test.YtjojkakjmoefaaaGreatDoorTyM
import Derived.WalkKit
import Derived.Deep.RegionLaw
import Derived.Lib.Walk
import Derived.Lib.AppendZerosOnto
import Derived.Laws.NewBlocks
import Derived.Shelf.RegionOpenPlain
import Derived.Shelf.Spec.SlicesInsert
import Derived.Lib.Hide
set_option linter.all false
set_option maxHeartbeats 4000000
set_option maxRecDepth 1000000
namespace Go.Proofs.YtjojkakjmoefaaaGreatDoor
open NQ Go.RowKit Go.Lib
def Ky(g n c i vb hf m vc N G:Nat)(w W1 W2 W3:World)(u1 u2:Value)(hi:i<n)(hm:0<m)(hU:n<=c)(ke:c<n+m)(hM:(n+m)*1000<=140737488355328)(hJ:n+m<=G)(kj:G<=9223372036854775807)
 (hF:∀ty,(Builtin.append_ #[46,3] ty #[.slice (some ⟨g,0,none⟩) i c,.int .i64<|(n:Int)+(m:Int)-(i:Int)]).run Tryz.prog w= .ok (.slice (some ⟨N,0,none⟩) (n+m) G) W1)
 (hN:∀ty,(Builtin.copy_ #[46,46] ty #[.slice (some ⟨N,i*5,none⟩) (n+m-i)<|G-i,.slice (some ⟨vb,hf,none⟩) m vc]).run Tryz.prog W1= .ok u1 W2)
 (hP:∀ty,(Builtin.copy_ #[46,46] ty #[.slice (some ⟨N,(i+m)*5,none⟩) (n+m-(i+m))<|G-(i+m),.slice (some ⟨g,i*5,none⟩) (n-i)<|c-i]).run Tryz.prog W2.drew= .ok u2 W3) :
 Calls Tryz.prog 118 #[.slice (some ⟨g,0,none⟩) n c,.int .i64 i,.slice (some ⟨vb,hf,none⟩) m vc] w λe w' =>e= .returned (.slice (some ⟨N,0,none⟩) (n+m) G)/\w' =W3:=by
 have mixed:Tryz.prog.follows .mixedOrders=true:=by kernel_rfl
 have kB:¬((m:Int)=0):=by omega
 have kC:¬((i:Int)=(n:Int)):=by omega
 have kP:(c:Int)<(n:Int)+(m:Int):=by omega
 have kG:¬(G=i):=by omega
 have kk:¬(G=i+m):=by omega
 have kK:¬(c=i):=by omega
 have kO:IntKind.i64.wrap ((i:Int)+(m:Int))=(i:Int)+(m:Int):=by rw[IntKind.wrap_i64];omega
 have kH:(0:Int)<=(i:Int)+(m:Int):=by omega
 have hE:i<=n:=by omega
 have kM:((i:Int)+(m:Int)).toNat=i+m:=by omega
 have kI:(i:Int)<=(n:Int):=by omega
 go_enter Tryz.func118,Tryz.ntmps118
 go_wp2_with (first
  |(at_builtin;refine Lib.wpList_append_run _ rfl _ _ _ _ rfl _ _ rfl rfl _ _ (hF _) ?_)
  |(at_builtin;refine wpList_copy_runI _ rfl _ _ 46 46 rfl _ _ rfl rfl (hN _) ?_))
 go_region_law_o (refine step_copy_runI rfl _ _ 46 46 rfl (.slice (some ⟨N,(i+m)*5,none⟩) (n+m-(i+m))<|G-(i+m)) (.slice (some ⟨g,i*5,none⟩) (n-i)<|c-i) (by simp[Act.eval,Act.put]) (by simp[Act.eval,Act.put]) (hP 3) ?_)
 go_wp2
 go_ret
 exact⟨rfl,rfl⟩
end Go.Proofs.YtjojkakjmoefaaaGreatDoor

namespace NQ
open Go Go.RowKit
def xm{P:Program}{w:World}{dT sT ty D t' :TypeId}{G:TypeInfo}{g o dLen dCap sLen sCap sz:Nat}{a:Addr}{cs:List Value}{cur:Array Value}(W:P.underlying dT=some (.slice D))(N:P.info? D=some G)(V:G.size=sz)
 (U:cs.length=Nat.min sLen dLen*sz) (H:∀j v,cs[j]? =some v->w.cell? (a.add j)=some v) (K:w.heap[g]? =some (.cells cur t' (0,0))) (T:o+cs.length<=cur.size) (h1:∀v∈cs,v.oneCell' =true) :
 (Builtin.copy_ #[dT,sT] ty #[.slice (some ⟨g,o,none⟩) dLen dCap,.slice (some a) sLen sCap]).run P w= .ok (goInt<|Nat.min sLen dLen) (w.setRow g (cur.toList.take o++cs++cur.toList.drop (o+cs.length)).toArray):=by
 have J :=run_loadCells_list (P:=P) w a cs H;have I:=run_storeCells_at P g o t' cs 0 cur w K (by simpa using T) h1;simp only[Nat.add_zero]at I;simp[Builtin.copy_,run_underlying W,Builtin.lenOf,Builtin.firstCells,Go.sizeOf,typeInfo,N,V, <- U,J,I]
end NQ

namespace Go.Proofs.YtjojkakjmoefaaaGreatDoor
open NQ Go.RowKit Go.Lib
def ub(a:Option Addr)(n i c vb hf m vc:Nat)(hE:i=n)(w W1:World)(u1:Value)(hm:0<m)(hU:n<=c)(hc:c<=9223372036854775807)
 (kn:∀ty,(Builtin.append_ #[46,46] ty #[.slice a n c,.slice (some ⟨vb,hf,none⟩) m vc]).run Tryz.prog w= .ok u1 W1) :
 Calls Tryz.prog 118 #[.slice a n c,.int .i64 i,.slice (some ⟨vb,hf,none⟩) m vc] w λe w' =>e= .returned u1/\w' =W1:=by
 have mixed:Tryz.prog.follows .mixedOrders=true:=by kernel_rfl
 have kB:¬((m:Int)=0):=by omega
 have kC:(i:Int)=(n:Int):=by omega
 have hi:i<=n:=by omega
 clear hE
 go_enter Tryz.func118,Tryz.ntmps118
 go_wp2_with (at_builtin;refine Lib.wpList_append_run _ rfl _ _ _ _ rfl _ _ rfl rfl _ _ (kn _) ?_)
 all_goals (go_ret;exact⟨rfl,rfl⟩)
def QZ(rows:List<|List D)(i:Nat)(r:List D)(hi:i<=rows.length)(hM:rows.length<=100000) :
 aaT cx 118 true 75 5 rows true [.int .i64 i,.slice 5 [r]] (rows.take i++[r]++rows.drop i):=by
 refine⟨⟨_,Tryz.func118,by kernel_rfl,by kernel_rfl⟩,λO w v vs xs hO hG kF hv T kq kg kx hs kz hx=>?_⟩;have hg:=vv kz;have h0:=wN<|hx 0 _ rfl;have h1:Rep w O (.slice 5 [r])<|vs.getD 1 Go.undef:=hx 1 _ rfl;rw[h0]at hg;generalize kN:vs.getD 1 Go.undef=u1 at h1 hg;obtain⟨n,X⟩:∃n,rows.length=n:=⟨_,rfl⟩
 have hIn:NQ.eu w O 5 rows xs:=hs;have hp:NQ.gK 5 rows:=kx;have K:xs.length=n*5:=by rw[<- X];exact T.1
 have hV:=NQ.eu.one hIn hp kg (by rw[X];exact K);obtain⟨U,desc,zv,i1,i2,i3,i4,i5,i6,i7,i8,i9,i10⟩:=bf 75 _ rfl;clear i2 i3 i8 i9 i10;have i4:U.size=5:=i4;have i5:U.bytes=80:=i5;have i7:zv.cells.size=5:=i7;have kf:cD cx 46=some (75,_):=rfl;have hX :=h1;cases h1 with|slice _ _ B off n1 N us ku kE hB kJ kc hu kv =>
 obtain rfl:n1=1:=by simpa using ku.symm
 have hn:NQ.gK 5 [r]:=kc;have hy:r.length=5:=(kc r<|by simp).1;by_cases hE:i=n
 . -- at the end
   obtain⟨v',W',news,a1,a2,a3,a4,a5,a6⟩:=sH (ty:=46) bf kf (by decide) hX T (by rw[X];simp[maxLen];omega) (by rw[X];show(n+1)*80<=_;omega);have ky :∃a c,v= .slice a n c/\n<=c/\c<=9223372036854775807:=by
    rcases T.2 with ⟨e1,e2⟩|⟨g,cap,cur,e1,_,e3,e4,e5,e6,e7⟩
    .exact⟨none,0,by rw[e1,show n=0 from X.symm.trans e2],(by rw[<- X,e2];exact Nat.le_refl _),Nat.zero_le _⟩
    .exact⟨_,cap,by rw[e1,X],by omega,by simpa [maxLen] using e5⟩
   obtain⟨a,c,rfl,hU,hc⟩:=ky;have I:=ub a n i c B off 1 N hE w W' v' (by omega) hU hc (λty=>by
    obtain⟨v2,W2,kh,b1,_⟩:=sH (ty:=ty) bf kf (by decide) hX T (by rw[X];simp[maxLen];omega) (by rw[X];show(n+1)*80<=_;omega);have:(Builtin.append_ #[46,46] ty #[.slice a n c,.slice (some ⟨B,off,none⟩) 1 N])=(Builtin.append_ #[46,46] 46 #[.slice a n c,.slice (some ⟨B,off,none⟩) 1 N]):=rfl;rw[this];exact a1)
   rw[hg];refine I.mono ?_;rintro en w' ⟨rfl,rfl⟩;have hz:rows.take i++[r]++rows.drop i=rows++[r]:=by
    rw[List.take_of_length_le<|by omega,List.drop_of_length_le<|by omega,List.append_nil]
   rw[hz];refine⟨v',xs++news,rfl,a3.os,a3.tape,a3.output,a3.size,λk hk kd=>a3.block k hk λe=>kd ?_,a4,by rw[List.length_append];exact a2,hp.append hn,hIn.append a6<|by rw[X];exact K⟩;cases a<;>simp[Value.ownBlock]at e;simp[home,e]
 .have kt:i<n:=by omega
  rcases T.2 with ⟨_,e2⟩|⟨g,cap,cur,e1,_,e3,e4,e5,e6,e7⟩
  .omega
  obtain⟨a0,hZ⟩:=kq rfl;have kp:cap=rows.length:=by rw[e1]at hZ;exact(Value.slice.inj hZ).2.2
  obtain rfl:cap=n:=kp.trans X;rw[X]at e1 e7;subst e1;have kA:xs=cur.toList:=by rw[<- e7,List.take_of_length_le<|by simp[e6]]
  have hd:∀q u,xs[q]? =some u->w.cell? ⟨g,q,none⟩=some u:=λq u hq=>by
   simp only[World.cell?,e3];rw[kA]at hq;simpa using hq
  have hT:g<w.heap.size:=(bP.1 e3).1;obtain⟨G,hI⟩:∃G,G=grownCap w (cap+1) cap 75:=⟨_,rfl⟩
  have hJ:cap+1<=G:=by rw[hI];exact grownCap_ge w _ _ _
  have hY:G<=maxLen:=by rw[hI];exact grownCap_le_maxLen w _ _ _ (by simp[maxLen];omega)
  obtain⟨H,hh⟩:∃H:Array Value,H=(xs.take<|i*5).toArray++Builtin.zeroCells zv.cells (cap+1-i)++Builtin.zeroCells zv.cells (G-(cap+1)):=⟨_,rfl⟩
  have kD:zv.cells.size=5:=i7;have hL:H.size=G*5:=by rw[hh];simp[Builtin.zeroCells,kD,K];omega
  have kl:H.toList.take (i*5)=xs.take (i*5):=by
   rw[hh];simp only[Array.toList_append,List.append_assoc];rw[List.take_append_of_le_length<|by simp[K];omega,List.take_take,Nat.min_self]
  have hold:(Builtin.firstCells U.size i<|.slice (some ⟨g,0,none⟩) i cap).run cx.P w.drew= .ok (xs.take<|i*5).toArray w.drew :=
   run_firstCells_some w.drew U.size i ⟨g,0,none⟩ i cap (xs.take<|i*5) (by rw[i4];simp[K];omega) (λq u hq=>by
    rw[dx,Nat.zero_add];rw[List.getElem?_take]at hq;split at hq
    .exact hd q u hq
    .cases hq)
  have hF:∀ty,(Builtin.append_ #[46,3] ty #[.slice (some ⟨g,0,none⟩) i cap,.int .i64<|(cap:Int)+((1:Nat):Int)-(i:Int)]).run Tryz.prog w= .ok (.slice (some ⟨w.heap.size,0,none⟩) (cap+1) G) (w.drew.alloc<|.cells H 75):=λty=>by
   have h:=Lib.run_append_grow_zeros (P:=Tryz.prog) w 46 3 ty 75 U zv .i64 .i64 Tryz.underlying46 Tryz.underlying3 i1 i6 (some ⟨g,0,none⟩) i cap (xs.take<|i*5) hold (cap+1-i) (by omega) (by rw[i4];decide) (by omega) (by omega) (by rw[i5];show(cap+1-i)*80<=_;omega)
    (by rw[i5,show i+(cap+1-i)=cap+1 by omega];exact growslice_fits (by omega)<|by show(cap+1)*80<=_;omega)
   rw[show i+(cap+1-i)=cap+1 by omega, <- hI, <- hh]at h;rw[show(cap:Int)+((1:Nat):Int)-(i:Int)=((cap+1-i:Nat):Int) by omega];exact h
  obtain⟨W1,V⟩:∃W1,W1=w.drew.alloc (.cells H 75):=⟨_,rfl⟩
  rw[<- V]at hF;have ka:W1.heap[w.heap.size]? =some (.cells H 75 (0,0)):=by rw[V];exact heap_alloc_new w.drew _
  have Y:∀k,k<w.heap.size->W1.heap[k]? =w.heap[k]? :=λk hk=>by rw[V];exact heap_alloc_old w.drew _ hk
  obtain⟨cs,hQ⟩:∃cs:List Value,cs=(List.range 5).map (λj=>us 0 j):=⟨_,rfl⟩
  have W:cs.length=5:=by rw[hQ];simp
  have hR:∀q u,cs[q]? =some u->q<5/\u=us 0 q:=λq u hq=>by
   rw[hQ,bc]at hq;by_cases hW:q<5
   .simp[hW]at hq;exact⟨hW,hq.symm⟩
   .simp[hW]at hq
  have ht:NQ.eu w O 5 [r] cs:=λa r' b d ha hb=>by
   have km :a=0:=by rcases a with _|a;rfl;simp at ha
   subst km;obtain rfl:r=r' :=by simpa using ha
   have ko:b<5:=by rw[<- hy];exact(aA.1 hb).1
   exact⟨us 0 b,by rw[hQ];simp[ko],kv 0 r b d rfl hb⟩
  have hl:=NQ.eu.one ht hn kg (by rw[W];rfl);have hC:∀j u,cs[j]? =some u->W1.cell? ((⟨B,off,none⟩:Addr).add j)=some u:=λj u hj=>by
   obtain⟨kL,rfl⟩:=hR j u hj;have ks:j<r.length:=by omega
   have:=hu 0 r j _ rfl<|ao ks;rw[dx,World.cell?_of_block (a:=⟨B,off+j,none⟩)<|Y B hB];rw[<- this];congr 2
  have hA:=λty=>xm (P:=Tryz.prog) (w:=W1) (dT:=46) (sT:=46) (ty:=ty) (dLen:=cap+1-i) (dCap:=G-i) (sLen:=1) (sCap:=N) (a:=⟨B,off,none⟩) (o:=i*5) Tryz.underlying46 i1 i4 (by rw[W];show 5=Nat.min 1 (cap+1-i)*5;rw[show Nat.min 1 (cap+1-i)=1 from Nat.min_eq_left<|by omega]) hC ka (by rw[W,hL];omega) hl
  obtain⟨Z,hK⟩:∃Z:Array Value,Z=(H.toList.take (i*5)++cs++H.toList.drop (i*5+cs.length)).toArray:=⟨_,rfl⟩
  simp only[<- hK]at hA;have hr:Z.size=G*5:=by rw[hK];simp[hL,W];omega
  have kb:(W1.setRow w.heap.size Z).drew.heap[w.heap.size]? =some (.cells Z 75 (0,0)):=setRow_heap W1 w.heap.size H Z _ _ ka;have hD:∀j u,(xs.drop<|i*5)[j]? =some u->(W1.setRow w.heap.size Z).drew.cell? ((⟨g,i*5,none⟩:Addr).add j)=some u:=λj u hj=>by
   rw[List.getElem?_drop]at hj;rw[dx];show(W1.setRow w.heap.size Z).cell? _=_
   rw[World.cell?_of_block (a:=⟨g,i*5+j,none⟩)<|(setRow_other W1 w.heap.size g Z<|by omega).trans<|Y g hT];exact hd _ u hj
  have hS:(xs.drop<|i*5).length=(cap-i)*5:=by simp[K];omega
  have ki:=λty=>xm (P:=Tryz.prog) (w:=(W1.setRow w.heap.size Z).drew) (dT:=46) (sT:=46) (ty:=ty) (dLen:=cap+1-(i+1)) (dCap:=G-(i+1)) (sLen:=cap-i) (sCap:=cap-i) (a:=⟨g,i*5,none⟩) (o:=(i+1)*5) Tryz.underlying46 i1 i4 (by rw[hS];show(cap-i)*5=Nat.min (cap-i) (cap+1-(i+1))*5;rw[show Nat.min (cap-i) (cap+1-(i+1))=cap-i from Nat.min_eq_left<|by omega]) hD kb (by rw[hS,hr];omega) λu hu=>hV u<|List.mem_of_mem_drop hu
  have I:=Ky g cap cap i B off 1 N w.heap.size G w W1 _ _ _ _ kt (by omega) (Nat.le_refl _) (by omega) (by omega) hJ (by simpa [maxLen] using hY) hF hA ki;rw[hg];refine I.mono ?_;rintro en w' ⟨rfl,rfl⟩;have J :(rows.take i++[r]++rows.drop i).length=cap+1:=by simp[X];omega
  have ho :(xs.take (i*5)++cs++xs.drop (i*5)).length=(cap+1)*5:=by simp[W,K];omega
  refine⟨_,xs.take (i*5)++cs++xs.drop (i*5),rfl,by rw[V];rfl,by rw[V];rfl,by rw[V];rfl,?_,λk hk kd=>?_,λg' kr =>by cases kr;exact .inr<|Nat.le_refl _,?_,(hp.take i).append hn |>.append (hp.drop i),?_⟩
  .simp only[World.setRow,World.drew,Array.size_modify];rw[V];simp[World.alloc]
  .rw[setRow_other _ _ _ _<|by omega];show(W1.setRow w.heap.size Z).heap[k]? =_
   rw[setRow_other _ _ _ _<|by omega];exact Y k hk
  .refine⟨by rw[J];exact ho,.inr ⟨w.heap.size,G,_,by rw[J],Nat.zero_le _,setRow_heap _ w.heap.size Z _ _ _ kb,by rw[J];exact hJ,hY,?_,?_⟩⟩
   .simp[hr,hS];omega
   .rw[J];have b1:(Z.toList.take<|(i+1)*5)=xs.take (i*5)++cs:=by
     rw[hK];show List.take _ (H.toList.take (i*5)++cs++_)=_
     have b2:(H.toList.take (i*5)++cs).length=(i+1)*5:=by simp[hL,W];omega
     rw[List.take_append_of_le_length<|by omega, <- b2,List.take_length,kl]
    show List.take _ (Z.toList.take ((i+1)*5)++xs.drop (i*5)++_)=_
    rw[b1,List.take_append_of_le_length<|by rw[ho];omega, <- ho,List.take_length]
  .exact((hIn.take hp i).append ht<|by simp[K,X]).append (hIn.drop i) (by simp[W,K,X];omega)
