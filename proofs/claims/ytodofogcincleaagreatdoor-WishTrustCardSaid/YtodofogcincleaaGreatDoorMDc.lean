/-
  Merged texts.
-/
import Derived.Test.YtodofogcincleaaGreatDoorTyM
import Derived.WalkKit
import Derived.Deep.RegionLaw
import Derived.Lib.Walk
import Derived.Lib.AppendZerosOnto
import Derived.Laws.NewBlocks
import Derived.Shelf.RegionOpenPlain
import Derived.Shelf.Spec.SlicesInsert
import Derived.Lib.Hide
set_option linter.all false
set_option maxHeartbeats 4000000
set_option maxRecDepth 1000000
namespace Go.Proofs.YtodofogcincleaaGreatDoor
open NQ Go.RowKit Go.Lib
theorem FG(g n c i vb hx m vc N G:Nat)(w W1 W2 W3:World)(u1 u2:Value)(hi:i<n)(hm:0<m)(kh:n<=c)(ks:c<n+m)(ka:(n+m)*1000<=140737488355328)(hX:n+m<=G)(kz:G<=9223372036854775807)
 (hV:∀ty,(Builtin.append_ #[41,3] ty #[.slice (some ⟨g,0,none⟩) i c,.int .i64 ((n:Int)+(m:Int)-(i:Int))]).run Tryz.prog w= .ok (.slice (some ⟨N,0,none⟩) (n+m) G) W1)
 (kb:∀ty,(Builtin.copy_ #[41,41] ty #[.slice (some ⟨N,i*5,none⟩) (n+m-i) (G-i),.slice (some ⟨vb,hx,none⟩) m vc]).run Tryz.prog W1= .ok u1 W2)
 (kc:∀ty,(Builtin.copy_ #[41,41] ty #[.slice (some ⟨N,(i+m)*5,none⟩) (n+m-(i+m)) (G-(i+m)),.slice (some ⟨g,i*5,none⟩) (n-i) (c-i)]).run Tryz.prog W2.drew= .ok u2 W3) :
 Calls Tryz.prog 184 #[.slice (some ⟨g,0,none⟩) n c,.int .i64 i,.slice (some ⟨vb,hx,none⟩) m vc] w λe w' =>e= .returned (.slice (some ⟨N,0,none⟩) (n+m) G)/\w' =W3:=by
 have mixed:Tryz.prog.follows .mixedOrders=true:=by kernel_rfl
 have kR:¬((m:Int)=0):=by omega
 have kS:¬((i:Int)=(n:Int)):=by omega
 have xf:(c:Int)<(n:Int)+(m:Int):=by omega
 have kW:¬(G=i):=by omega
 have kA:¬(G=i+m):=by omega
 have xa:¬(c=i):=by omega
 have xe:IntKind.i64.wrap ((i:Int)+(m:Int))=(i:Int)+(m:Int):=by rw[IntKind.wrap_i64];omega
 have kX:(0:Int)<=(i:Int)+(m:Int):=by omega
 have hU:i<=n:=by omega
 have xc:((i:Int)+(m:Int)).toNat=i+m:=by omega
 have kY:(i:Int)<=(n:Int):=by omega
 go_enter Tryz.func184,Tryz.ntmps184
 go_wp2_with (first
  |(at_builtin;refine Lib.wpList_append_run _ rfl _ _ _ _ rfl _ _ rfl rfl _ _ (hV _) ?_)
  |(at_builtin;refine wpList_copy_runI _ rfl _ _ 41 41 rfl _ _ rfl rfl (kb _) ?_))
 go_region_law_o (refine step_copy_runI rfl _ _ 41 41 rfl (.slice (some ⟨N,(i+m)*5,none⟩) (n+m-(i+m)) (G-(i+m))) (.slice (some ⟨g,i*5,none⟩) (n-i) (c-i)) (by simp[Act.eval,Act.put]) (by simp[Act.eval,Act.put]) (kc 3) ?_)
 go_wp2
 go_ret
 exact⟨rfl,rfl⟩
end Go.Proofs.YtodofogcincleaaGreatDoor
namespace NQ
open Go Go.RowKit
theorem tU{P:Program}{w:World}{dT sT ty elem t' :TypeId}{info:TypeInfo}{g o dLen dCap sLen sCap sz:Nat}{a:Addr}{cs:List Value}{cur:Array Value}(hu:P.underlying dT=some (.slice elem))(hi:P.info? elem=some info)(hs:info.size=sz)
 (hn:cs.length=Nat.min sLen dLen*sz) (kk:∀j v,cs[j]? =some v->w.cell? (a.add j)=some v) (hg:w.heap[g]? =some (.cells cur t' (0,0))) (hl:o+cs.length<=cur.size) (h1:∀v∈cs,v.oneCell' =true) :
 (Builtin.copy_ #[dT,sT] ty #[.slice (some ⟨g,o,none⟩) dLen dCap,.slice (some a) sLen sCap]).run P w= .ok (goInt (Nat.min sLen dLen)) (w.setRow g (cur.toList.take o++cs++cur.toList.drop (o+cs.length)).toArray):=by
 have kJ :=run_loadCells_list (P:=P) w a cs kk;have ku:=run_storeCells_at P g o t' cs 0 cur w hg (by simpa using hl) h1;simp only[Nat.add_zero]at ku;simp[Builtin.copy_,run_underlying hu,Builtin.lenOf,Builtin.firstCells,Go.sizeOf,typeInfo,hi,hs, <- hn,kJ,ku]
end NQ
namespace Go.Proofs.YtodofogcincleaaGreatDoor
open NQ Go.RowKit Go.Lib
theorem qG(a:Option Addr)(n i c vb hx m vc:Nat)(hU:i=n)(w W1:World)(u1:Value)(hm:0<m)(kh:n<=c)(hc:c<=9223372036854775807)
 (kD:∀ty,(Builtin.append_ #[41,41] ty #[.slice a n c,.slice (some ⟨vb,hx,none⟩) m vc]).run Tryz.prog w= .ok u1 W1) :
 Calls Tryz.prog 184 #[.slice a n c,.int .i64 i,.slice (some ⟨vb,hx,none⟩) m vc] w λe w' =>e= .returned u1/\w' =W1:=by
 have mixed:Tryz.prog.follows .mixedOrders=true:=by kernel_rfl
 have kR:¬((m:Int)=0):=by omega
 have kS:(i:Int)=(n:Int):=by omega
 have hi:i<=n:=by omega
 clear hU
 go_enter Tryz.func184,Tryz.ntmps184
 go_wp2_with (at_builtin;refine Lib.wpList_append_run _ rfl _ _ _ _ rfl _ _ rfl rfl _ _ (kD _) ?_)
 all_goals (go_ret;exact⟨rfl,rfl⟩)
theorem KO(rows:List (List D))(i:Nat)(r:List D)(hi:i<=rows.length)(ka:rows.length<=100000) :
 TB cx 184 true 68 5 rows true [.int .i64 i,.slice 5 [r]] (rows.take i++[r]++rows.drop i):=by
 refine⟨⟨_,Tryz.func184,by kernel_rfl,by kernel_rfl⟩,λO w v vs xs hO hG kV hv ht kG kv kN hM kP hP=>?_⟩;have hy:=xJ kP;have h0:=xB (hP 0 _ rfl);have h1:Rep w O (.slice 5 [r]) (vs.getD 1 Go.undef):=hP 1 _ rfl;rw[h0]at hy;generalize xd:vs.getD 1 Go.undef=u1 at h1 hy;obtain⟨n,hn⟩:∃n,rows.length=n:=⟨_,rfl⟩
 have hIn:NQ.dR w O 5 rows xs:=hM;have hK:NQ.fy 5 rows:=kN;have hz:xs.length=n*5:=by rw[<- hn];exact ht.1
 have ki:=NQ.dR.one hIn hK kv (by rw[hn];exact hz);obtain⟨info,desc,zv,i1,i2,i3,i4,i5,i6,i7,i8,i9,i10⟩:=bo 68 _ rfl;clear i2 i3 i8 i9 i10;have i4:info.size=5:=i4;have i5:info.bytes=80:=i5;have i7:zv.cells.size=5:=i7;have kt:cB cx 41=some (68,_):=rfl;have kl :=h1;cases h1 with|slice _ _ B off n1 ho us kL kU hB kZ kq hu kM =>
 obtain rfl:n1=1:=by simpa using kL.symm
 have hI:NQ.fy 5 [r]:=kq;have hQ:r.length=5:=(kq r (by simp)).1;by_cases hU:i=n
 . -- at the end
   obtain⟨v',W',news,a1,a2,a3,a4,a5,a6⟩:=pO (ty:=41) bo kt (by decide) kl ht (by rw[hn];simp[maxLen];omega) (by rw[hn];show(n+1)*80<=_;omega);have kO :∃a c,v= .slice a n c/\n<=c/\c<=9223372036854775807:=by
    rcases ht.2 with ⟨e1,e2⟩|⟨g,cap,cur,e1,_,e3,e4,e5,e6,e7⟩
    .exact⟨none,0,by rw[e1,show n=0 from hn.symm.trans e2],(by rw[<- hn,e2];exact Nat.le_refl _),Nat.zero_le _⟩
    .exact⟨_,cap,by rw[e1,hn],by omega,by simpa [maxLen] using e5⟩
   obtain⟨a,c,rfl,kh,hc⟩:=kO;have hd:=qG a n i c B off 1 ho hU w W' v' (by omega) kh hc (λty=>by
    obtain⟨v2,W2,kx,b1,_⟩:=pO (ty:=ty) bo kt (by decide) kl ht (by rw[hn];simp[maxLen];omega) (by rw[hn];show(n+1)*80<=_;omega);have:(Builtin.append_ #[41,41] ty #[.slice a n c,.slice (some ⟨B,off,none⟩) 1 ho])=(Builtin.append_ #[41,41] 41 #[.slice a n c,.slice (some ⟨B,off,none⟩) 1 ho]):=rfl;rw[this];exact a1)
   rw[hy];refine hd.mono ?_;rintro en w' ⟨rfl,rfl⟩;have hR:rows.take i++[r]++rows.drop i=rows++[r]:=by
    rw[List.take_of_length_le (by omega),List.drop_of_length_le (by omega),List.append_nil]
   rw[hR];refine⟨v',xs++news,rfl,a3.os,a3.tape,a3.output,a3.size,λk hk kr=>a3.block k hk λe=>kr ?_,a4,by rw[List.length_append];exact a2,hK.append hI,hIn.append a6 (by rw[hn];exact hz)⟩;cases a <;> simp[Value.ownBlock]at e;simp[home,e]
 .have kK:i<n:=by omega
  rcases ht.2 with ⟨_,e2⟩|⟨g,cap,cur,e1,_,e3,e4,e5,e6,e7⟩
  .omega
  obtain⟨a0,kn⟩:=kG rfl;have kF:cap=rows.length:=by rw[e1]at kn;exact(Value.slice.inj kn).2.2
  obtain rfl:cap=n:=kF.trans hn;rw[hn]at e1 e7;subst e1;have kQ:xs=cur.toList:=by rw[<- e7,List.take_of_length_le (by simp[e6])]
  have hp:∀q u,xs[q]? =some u->w.cell? ⟨g,q,none⟩=some u:=λq u hq=>by
   simp only[World.cell?,e3];rw[kQ]at hq;simpa using hq
  have kg:g<w.heap.size:=(bI.1 e3).1;obtain⟨G,hW⟩:∃G,G=grownCap w (cap+1) cap 68:=⟨_,rfl⟩
  have hX:cap+1<=G:=by rw[hW];exact grownCap_ge w _ _ _
  have km:G<=maxLen:=by rw[hW];exact grownCap_le_maxLen w _ _ _ (by simp[maxLen];omega)
  obtain⟨hh,hC⟩:∃hh:Array Value,hh=(xs.take (i*5)).toArray++Builtin.zeroCells zv.cells (cap+1-i)++Builtin.zeroCells zv.cells (G-(cap+1)):=⟨_,rfl⟩
  have kT:zv.cells.size=5:=i7;have hZ:hh.size=G*5:=by rw[hC];simp[Builtin.zeroCells,kT,hz];omega
  have kB:hh.toList.take (i*5)=xs.take (i*5):=by
   rw[hC];simp only[Array.toList_append,List.append_assoc];rw[List.take_append_of_le_length (by simp[hz];omega),List.take_take,Nat.min_self]
  have hold:(Builtin.firstCells info.size i (.slice (some ⟨g,0,none⟩) i cap)).run cx.P w.drew= .ok (xs.take (i*5)).toArray w.drew :=
   run_firstCells_some w.drew info.size i ⟨g,0,none⟩ i cap (xs.take (i*5)) (by rw[i4];simp[hz];omega) (λq u hq=>by
    rw[de,Nat.zero_add];rw[List.getElem?_take]at hq;split at hq
    .exact hp q u hq
    .cases hq)
  have hV:∀ty,(Builtin.append_ #[41,3] ty #[.slice (some ⟨g,0,none⟩) i cap,.int .i64 ((cap:Int)+((1:Nat):Int)-(i:Int))]).run Tryz.prog w= .ok (.slice (some ⟨w.heap.size,0,none⟩) (cap+1) G) (w.drew.alloc (.cells hh 68)):=λty=>by
   have h:=Lib.run_append_grow_zeros (P:=Tryz.prog) w 41 3 ty 68 info zv .i64 .i64 Tryz.underlying41 Tryz.underlying3 i1 i6 (some ⟨g,0,none⟩) i cap (xs.take (i*5)) hold (cap+1-i) (by omega) (by rw[i4];decide) (by omega) (by omega) (by rw[i5];show(cap+1-i)*80<=_;omega)
    (by rw[i5,show i+(cap+1-i)=cap+1 by omega];exact growslice_fits (by omega) (by show(cap+1)*80<=_;omega))
   rw[show i+(cap+1-i)=cap+1 by omega, <- hW, <- hC]at h;rw[show(cap:Int)+((1:Nat):Int)-(i:Int)=((cap+1-i:Nat):Int) by omega];exact h
  obtain⟨W1,hD⟩:∃W1,W1=w.drew.alloc (.cells hh 68):=⟨_,rfl⟩
  rw[<- hD]at hV;have ko:W1.heap[w.heap.size]? =some (.cells hh 68 (0,0)):=by rw[hD];exact heap_alloc_new w.drew _
  have hr:∀k,k<w.heap.size->W1.heap[k]? =w.heap[k]? :=λk hk=>by rw[hD];exact heap_alloc_old w.drew _ hk
  obtain⟨cs,kd⟩:∃cs:List Value,cs=(List.range 5).map (λj=>us 0 j):=⟨_,rfl⟩
  have hE:cs.length=5:=by rw[kd];simp
  have ke:∀q u,cs[q]? =some u->q<5/\u=us 0 q:=λq u hq=>by
   rw[kd,bc]at hq;by_cases kj:q<5
   .simp[kj]at hq;exact⟨kj,hq.symm⟩
   .simp[kj]at hq
  have hN:NQ.dR w O 5 [r] cs:=λa r' b d ha hb=>by
   have kC :a=0:=by rcases a with _|a;rfl;simp at ha
   subst kC;obtain rfl:r=r' :=by simpa using ha
   have kE:b<5:=by rw[<- hQ];exact(aB.1 hb).1
   exact⟨us 0 b,by rw[kd];simp[kE],kM 0 r b d rfl hb⟩
  have hF:=NQ.dR.one hN hI kv (by rw[hE];rfl);have hS:∀j u,cs[j]? =some u->W1.cell? ((⟨B,off,none⟩:Addr).add j)=some u:=λj u hj=>by
   obtain⟨xb,rfl⟩:=ke j u hj;have kI:j<r.length:=by omega
   have:=hu 0 r j _ rfl (au kI);rw[de,World.cell?_of_block (a:=⟨B,off+j,none⟩) (hr B hB)];rw[<- this];congr 2
  have hA:=λty=>tU (P:=Tryz.prog) (w:=W1) (dT:=41) (sT:=41) (ty:=ty) (dLen:=cap+1-i) (dCap:=G-i) (sLen:=1) (sCap:=ho) (a:=⟨B,off,none⟩) (o:=i*5) Tryz.underlying41 i1 i4 (by rw[hE];show 5=Nat.min 1 (cap+1-i)*5;rw[show Nat.min 1 (cap+1-i)=1 from Nat.min_eq_left (by omega)]) hS ko (by rw[hE,hZ];omega) hF
  obtain⟨R2,hY⟩:∃R2:Array Value,R2=(hh.toList.take (i*5)++cs++hh.toList.drop (i*5+cs.length)).toArray:=⟨_,rfl⟩
  simp only[<- hY]at hA;have hL:R2.size=G*5:=by rw[hY];simp[hZ,hE];omega
  have kp:(W1.setRow w.heap.size R2).drew.heap[w.heap.size]? =some (.cells R2 68 (0,0)):=setRow_heap W1 w.heap.size hh R2 _ _ ko;have hT:∀j u,(xs.drop (i*5))[j]? =some u->(W1.setRow w.heap.size R2).drew.cell? ((⟨g,i*5,none⟩:Addr).add j)=some u:=λj u hj=>by
   rw[List.getElem?_drop]at hj;rw[de];show(W1.setRow w.heap.size R2).cell? _=_
   rw[World.cell?_of_block (a:=⟨g,i*5+j,none⟩) ((setRow_other W1 w.heap.size g R2 (by omega)).trans (hr g kg))];exact hp _ u hj
  have kf:(xs.drop (i*5)).length=(cap-i)*5:=by simp[hz];omega
  have ky:=λty=>tU (P:=Tryz.prog) (w:=(W1.setRow w.heap.size R2).drew) (dT:=41) (sT:=41) (ty:=ty) (dLen:=cap+1-(i+1)) (dCap:=G-(i+1)) (sLen:=cap-i) (sCap:=cap-i) (a:=⟨g,i*5,none⟩) (o:=(i+1)*5) Tryz.underlying41 i1 i4 (by rw[kf];show(cap-i)*5=Nat.min (cap-i) (cap+1-(i+1))*5;rw[show Nat.min (cap-i) (cap+1-(i+1))=cap-i from Nat.min_eq_left (by omega)]) hT kp (by rw[kf,hL];omega) (λu hu=>ki u (List.mem_of_mem_drop hu))
  have hd:=FG g cap cap i B off 1 ho w.heap.size G w W1 _ _ _ _ kK (by omega) (Nat.le_refl _) (by omega) (by omega) hX (by simpa [maxLen] using km) hV hA ky;rw[hy];refine hd.mono ?_;rintro en w' ⟨rfl,rfl⟩;have hf :(rows.take i++[r]++rows.drop i).length=cap+1:=by simp[hn];omega
  have hJ :(xs.take (i*5)++cs++xs.drop (i*5)).length=(cap+1)*5:=by simp[hE,hz];omega
  refine⟨_,xs.take (i*5)++cs++xs.drop (i*5),rfl,by rw[hD];rfl,by rw[hD];rfl,by rw[hD];rfl,?_,λk hk kr=>?_,λg' kH =>by cases kH;exact .inr (Nat.le_refl _),?_,(hK.take i).append hI |>.append (hK.drop i),?_⟩
  .simp only[World.setRow,World.drew,Array.size_modify];rw[hD];simp[World.alloc]
  .rw[setRow_other _ _ _ _ (by omega)];show(W1.setRow w.heap.size R2).heap[k]? =_
   rw[setRow_other _ _ _ _ (by omega)];exact hr k hk
  .refine⟨by rw[hf];exact hJ,.inr ⟨w.heap.size,G,_,by rw[hf],Nat.zero_le _,setRow_heap _ w.heap.size R2 _ _ _ kp,by rw[hf];exact hX,km,?_,?_⟩⟩
   .simp[hL,kf];omega
   .rw[hf];have b1:(R2.toList.take ((i+1)*5))=xs.take (i*5)++cs:=by
     rw[hY];show List.take _ (hh.toList.take (i*5)++cs++_)=_
     have b2:(hh.toList.take (i*5)++cs).length=(i+1)*5:=by simp[hZ,hE];omega
     rw[List.take_append_of_le_length (by omega), <- b2,List.take_length,kB]
    show List.take _ (R2.toList.take ((i+1)*5)++xs.drop (i*5)++_)=_
    rw[b1,List.take_append_of_le_length (by rw[hJ];omega), <- hJ,List.take_length]
  .exact((hIn.take hK i).append hN (by simp[hz,hn])).append (hIn.drop i) (by simp[hE,hz,hn];omega)
end Go.Proofs.YtodofogcincleaaGreatDoor
