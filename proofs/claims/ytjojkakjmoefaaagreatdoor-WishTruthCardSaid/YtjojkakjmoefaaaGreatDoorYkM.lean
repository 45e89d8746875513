/-
  One text.
-/
import Derived.Test.YtjojkakjmoefaaaGreatDoorMDc
import Derived.Lib.Overlaps
set_option linter.all false
set_option maxHeartbeats 4000000
set_option maxRecDepth 1000000
namespace Go.Proofs.YtjojkakjmoefaaaGreatDoor
open NQ Go.RowKit Go.Lib
def Bd(g n c i vb hl m vc:Nat)(w W1 W2:World)(u1 u2:Value)(hi:i<n)(hm:0<m)(hd:n+m<=c)(hp:c<=9223372036854775807)
 (hS:∀lb cb,(callFunc 165 #[.slice (some ⟨vb,hl,none⟩) m vc,.slice (some ⟨g,(i+m)*5,none⟩) lb cb]).run Tryz.prog w= .ok (.value<|.bool false) w)
 (hK:∀ty,(Builtin.copy_ #[46,46] ty #[.slice (some ⟨g,(i+m)*5,none⟩) (n+m-(i+m))<|c-(i+m),.slice (some ⟨g,i*5,none⟩) (n+m-i)<|c-i]).run Tryz.prog w.drew= .ok u1 W1)
 (hL:∀ty,(Builtin.copy_ #[46,46] ty #[.slice (some ⟨g,i*5,none⟩) (n+m-i)<|c-i,.slice (some ⟨vb,hl,none⟩) m vc]).run Tryz.prog W1= .ok u2 W2) :
 Calls Tryz.prog 118 #[.slice (some ⟨g,0,none⟩) n c,.int .i64 i,.slice (some ⟨vb,hl,none⟩) m vc] w λe w' =>e= .returned (.slice (some ⟨g,0,none⟩) (n+m) c)/\w' =W2:=by
 have mixed:Tryz.prog.follows .mixedOrders=true:=by kernel_rfl
 have kF:¬((m:Int)=0):=by omega
 have kG:¬((i:Int)=(n:Int)):=by omega
 have kH:¬((c:Int)<(n:Int)+(m:Int)):=by omega
 have kA:¬(c=i):=by omega
 have kj:¬(c=i+m):=by omega
 have kD:IntKind.i64.wrap ((i:Int)+(m:Int))=(i:Int)+(m:Int):=by rw[IntKind.wrap_i64];omega
 have kE:IntKind.i64.wrap ((n:Int)+(m:Int))=(n:Int)+(m:Int):=by rw[IntKind.wrap_i64];omega
 have kx:(0:Int)<=(i:Int)+(m:Int):=by omega
 have hX:i<=n:=by omega
 have kC:((i:Int)+(m:Int)).toNat=i+m:=by omega
 have ks:((n:Int)+(m:Int)).toNat=n+m:=by omega
 have ky:(i:Int)<=(n:Int)+(m:Int):=by omega
 go_enter Tryz.func118,Tryz.ntmps118
 go_wp2_with (simp only[hS])
 go_region_law_o (refine step_copy_runI rfl _ _ 46 46 rfl (.slice (some ⟨g,(i+m)*5,none⟩) (n+m-(i+m))<|c-(i+m)) (.slice (some ⟨g,i*5,none⟩) (n+m-i)<|c-i) (by simp[Act.eval,Act.put]) (by simp[Act.eval,Act.put]) (hK 3) ?_)
 go_wp2_with (at_builtin;refine wpList_copy_runI _ rfl _ _ 46 46 rfl _ _ rfl rfl (hL _) ?_)
 go_ret
 exact⟨rfl,rfl⟩
def QX(rows:List<|List D)(i:Nat)(r:List D)(hi:i<=rows.length)(hJ:rows.length<=100000)
 (O:Nat->Prop) (w:World) (v u:Value) (xs:List Value) (hO:∀b,O b->b<w.heap.size) (hG:jO cx w) (kg:∀g cells,cx.gl g=some cells-> ¬O g) (hv:∀g,home v=some g->O g)
 (H:w.ownsRow 0 75 5 v rows.length xs) (ka:∀r∈rows,r.length=5/\ ∀d∈r,d.one=true) (X:∀i r j d,rows[i]? =some r->r[j]? =some d-> ∃u,xs[i*5+j]? =some u/\Rep w O d u)
 (h1:Rep w O (.slice 5 [r]) u) (hB:∀B off n c,u= .slice (some ⟨B,off,none⟩) n c->(∃cur t,w.heap[B]? =some (.cells cur t (0,0)))/\home v≠some B) :
 Calls cx.P 118 #[v,.int .i64 i,u] w λen w' => ∃v' kd,en= .returned v' /\w'.os=w.os/\w'.tape=w.tape/\w'.output=w.output/\w.heap.size<=w'.heap.size /\
  (∀k,k<w.heap.size->home v≠some k->w'.heap[k]? =w.heap[k]?)/\(∀g,home v' =some g->home v=some g\/w.heap.size<=g)/\w'.ownsRow 0 75 5 v' (rows.take i++[r]++rows.drop i).length kd /\(∀q∈rows.take i++[r]++rows.drop i,q.length=5/\ ∀d∈q,d.one=true) /\
  ∀a q j d,(rows.take i++[r]++rows.drop i)[a]? =some q->q[j]? =some d-> ∃z,kd[a*5+j]? =some z/\Rep w O d z:=by
 by_cases Y:∃a,v= .slice a rows.length rows.length
 .exact(QZ rows i r hi hJ).2 O w v #[.int .i64 i,u] xs hO hG kg hv H (λ_=>Y) (by decide) ka X rfl (λj d hj=>by
   rcases j with _|_|j
   .cases hj;exact .int _ _
   .cases hj;exact h1
   .simp at hj)
 obtain⟨n,U⟩:∃n,rows.length=n:=⟨_,rfl⟩
 have hIn:NQ.eu w O 5 rows xs:=X;have W:NQ.gK 5 rows:=ka;have V:xs.length=n*5:=by rw[<- U];exact H.1
 have hR:=NQ.eu.one hIn W (by decide) (by rw[U];exact V);obtain⟨info,desc,zv,i1,i2,i3,i4,i5,i6,i7,i8,i9,i10⟩:=bf 75 _ rfl;clear i2 i3 i8 i9 i10;have i4:info.size=5:=i4;have i5:info.bytes=80:=i5;have kb:cD cx 46=some (75,_):=rfl;have hU :=h1;cases h1 with|slice _ _ B off n1 G us kp kv ke kz hZ hu kr =>
 obtain rfl:n1=1:=by simpa using kp.symm
 have hh:NQ.gK 5 [r]:=hZ;have hs:r.length=5:=(hZ r<|by simp).1;obtain⟨⟨hD,tB,hE⟩,kf⟩:=hB _ _ _ _ rfl;by_cases hX:i=n
 . -- at the end
   obtain⟨v',W',news,a1,a2,a3,a4,a5,a6⟩:=sH (ty:=46) bf kb (by decide) hU H (by rw[U];simp[maxLen];omega) (by rw[U];show(n+1)*80<=_;omega);have kt :∃a c,v= .slice a n c/\n<=c/\c<=9223372036854775807:=by
    rcases H.2 with ⟨e1,e2⟩|⟨g,cap,cur,e1,_,e3,e4,e5,e6,e7⟩
    .exact⟨none,0,by rw[e1,show n=0 from U.symm.trans e2],(by rw[<- U,e2];exact Nat.le_refl _),Nat.zero_le _⟩
    .exact⟨_,cap,by rw[e1,U],by omega,by simpa [maxLen] using e5⟩
   obtain⟨a,c,rfl,kq,hc⟩:=kt;have I:=ub a n i c B off 1 G hX w W' v' (by omega) kq hc (λty=>by
    obtain⟨v2,W2,kc,b1,_⟩:=sH (ty:=ty) bf kb (by decide) hU H (by rw[U];simp[maxLen];omega) (by rw[U];show(n+1)*80<=_;omega);have:(Builtin.append_ #[46,46] ty #[.slice a n c,.slice (some ⟨B,off,none⟩) 1 G])=(Builtin.append_ #[46,46] 46 #[.slice a n c,.slice (some ⟨B,off,none⟩) 1 G]):=rfl;rw[this];exact a1)
   refine I.mono ?_;rintro en w' ⟨rfl,rfl⟩;have ht:rows.take i++[r]++rows.drop i=rows++[r]:=by
    rw[List.take_of_length_le<|by omega,List.drop_of_length_le<|by omega,List.append_nil]
   rw[ht];refine⟨v',xs++news,rfl,a3.os,a3.tape,a3.output,a3.size,λk hk hQ=>a3.block k hk λe=>hQ ?_,a4,by rw[List.length_append];exact a2,W.append hh,hIn.append a6<|by rw[U];exact V⟩;cases a<;>simp[Value.ownBlock]at e;simp[home,e]
 .have kn:i<n:=by omega
  rcases H.2 with ⟨_,e2⟩|⟨g,cap,cur,e1,_,e3,e4,e5,e6,e7⟩
  .omega
  rw[U]at e1 e7 e4;have hd:n+1<=cap:=by
   have:cap≠n:=λe=>Y ⟨_,by rw[e1,e,U]⟩
   omega
  subst e1;have hn :B≠g:=λe=>kf (by rw[e];rfl)
  have hp:cap<=9223372036854775807:=by simpa [maxLen] using e5
  have ku:∀q,q<n*5->cur.toList[q]? =xs[q]? :=λq hq=>by
   rw[<- e7,List.getElem?_take,if_pos hq]
  have hS:∀lb cb,(callFunc 165 #[.slice (some ⟨B,off,none⟩) 1 G,.slice (some ⟨g,(i+1)*5,none⟩) lb cb]).run Tryz.prog w= .ok (.value<|.bool false) w:=λlb cb=>by
   rw[run_callFunc_extern (P:=Tryz.prog) Tryz.func165 (by kernel_rfl) (by kernel_rfl) (by kernel_rfl) (e:=Extern.SlicesOverlaps.overlaps #[46,46] #[4])<|by kernel_rfl,
    Lib.run_overlaps_apart w 46 4 75 Tryz.underlying46 5 Tryz.sizeOf75 ⟨B,off,none⟩ ⟨g,(i+1)*5,none⟩ 1 G lb cb hn tB 75 hD.size cur.size
     (by simp[World.shape?,hE]) (by simp[World.shape?,e3]) (by omega) (by simp[World.frozen?,hE]) (by simp[World.frozen?,hE])]
   rfl
  have hf:∀q z,cur.toList[q]? =some z->w.cell? ⟨g,q,none⟩=some z:=λq z hq=>by
   simp only[World.cell?,e3];simpa using hq
  have kl:g<w.heap.size:=(bP.1 e3).1;have hP:(xs.drop<|i*5).length=(n-i)*5:=by simp[V];omega
  have hA:=λty=>xm (P:=Tryz.prog) (w:=w.drew) (dT:=46) (sT:=46) (ty:=ty) (dLen:=n+1-(i+1)) (dCap:=cap-(i+1)) (sLen:=n+1-i) (sCap:=cap-i) (a:=⟨g,i*5,none⟩) (o:=(i+1)*5) (g:=g) (cs:=xs.drop<|i*5) (cur:=cur) (t' :=75) Tryz.underlying46 i1 i4
   (by rw[hP];simp only[Nat.min_def];split<;>omega)
   (λj z hj=>by
    rw[List.getElem?_drop]at hj;rw[dx];show w.cell? _=_
    refine hf _ z ?_;have ko:=(aA.1 hj).1;rw[ku _<|by omega];exact hj)
   e3 (by rw[hP,e6];omega) (λz hz=>hR z<|List.mem_of_mem_drop hz)
  obtain⟨K,hC⟩:∃K:Array Value,K=(cur.toList.take ((i+1)*5)++xs.drop (i*5)++cur.toList.drop ((i+1)*5+(xs.drop<|i*5).length)).toArray:=⟨_,rfl⟩
  simp only[<- hC]at hA;have ho:K.size=cap*5:=by rw[hC];simp[hP,e6,V];omega
  obtain⟨W1,N⟩:∃W1,W1=w.drew.setRow g K:=⟨_,rfl⟩
  simp only[<- N]at hA;have hW:W1.heap[g]? =some (.cells K 75 (0,0)):=by rw[N];exact setRow_heap w.drew g cur K _ _ e3
  have Z:∀k,k≠g->W1.heap[k]? =w.heap[k]? :=λk hk=>by rw[N];exact setRow_other w.drew g k K hk
  obtain⟨cs,hM⟩:∃cs:List Value,cs=(List.range 5).map (λj=>us 0 j):=⟨_,rfl⟩
  have T:cs.length=5:=by rw[hM];simp
  have hN:∀q z,cs[q]? =some z->q<5/\z=us 0 q:=λq z hq=>by
   rw[hM,bc]at hq;by_cases hT:q<5
   .simp[hT]at hq;exact⟨hT,hq.symm⟩
   .simp[hT]at hq
  have hr:NQ.eu w O 5 [r] cs:=λa r' b d ha hb=>by
   have kh :a=0:=by rcases a with _|a;rfl;simp at ha
   subst kh;obtain rfl:r=r' :=by simpa using ha
   have ki:b<5:=by rw[<- hs];exact(aA.1 hb).1
   exact⟨us 0 b,by rw[hM];simp[ki],kr 0 r b d rfl hb⟩
  have hg:=NQ.eu.one hr hh (by decide) (by rw[T];rfl);have hx:∀j z,cs[j]? =some z->W1.cell? ((⟨B,off,none⟩:Addr).add j)=some z:=λj z hj=>by
   obtain⟨kB,rfl⟩:=hN j z hj;have km:j<r.length:=by omega
   have:=hu 0 r j _ rfl<|ao km;rw[dx,World.cell?_of_block (a:=⟨B,off+j,none⟩)<|Z B hn];rw[<- this];congr 2
  have hV:=λty=>xm (P:=Tryz.prog) (w:=W1) (dT:=46) (sT:=46) (ty:=ty) (dLen:=n+1-i) (dCap:=cap-i) (sLen:=1) (sCap:=G) (a:=⟨B,off,none⟩) (o:=i*5) (g:=g) (cs:=cs) (cur:=K) (t' :=75) Tryz.underlying46 i1 i4
   (by rw[T];simp only[Nat.min_def];split<;>omega) hx hW (by rw[T,ho];omega) hg
  obtain⟨R2,hF⟩:∃R2:Array Value,R2=(K.toList.take (i*5)++cs++K.toList.drop (i*5+cs.length)).toArray:=⟨_,rfl⟩
  simp only[<- hF]at hV;have hI:R2.size=cap*5:=by rw[hF];simp[ho,T];omega
  have I:=Bd g n cap i B off 1 G w W1 _ _ _ kn (by omega) hd hp hS hA hV;refine I.mono ?_;rintro en w' ⟨rfl,rfl⟩;have J :(rows.take i++[r]++rows.drop i).length=n+1:=by simp[U];omega
  have hy :(xs.take (i*5)++cs++xs.drop (i*5)).length=(n+1)*5:=by simp[T,V];omega
  refine⟨_,xs.take (i*5)++cs++xs.drop (i*5),rfl,by rw[N];rfl,by rw[N];rfl,by rw[N];rfl,?_,λk hk hQ=>?_,λg' kk =>by cases kk;exact .inl rfl,?_,(W.take i).append hh |>.append (W.drop i),?_⟩
  .simp only[World.setRow,Array.size_modify];rw[N];show w.heap.size<=(w.drew.heap.modify g _).size
   rw[Array.size_modify];exact Nat.le_refl _
  .have hY:k≠g:=λe=>hQ (by rw[e];rfl)
   rw[setRow_other _ _ _ _ hY];exact Z k hY
  .refine⟨by rw[J];exact hy,.inr ⟨g,cap,R2,by rw[J],Nat.zero_le _,setRow_heap _ g K R2 _ _ hW,by rw[J];exact hd,e5,hI,?_⟩⟩;rw[J];have b0:K.toList.take (i*5)=xs.take (i*5):=by
    rw[hC];show List.take _ (cur.toList.take ((i+1)*5)++xs.drop (i*5)++_)=_
    have b3:xs.take (i*5)=cur.toList.take (i*5):=by
     rw[<- e7,List.take_take,Nat.min_eq_left<|by omega]
    rw[b3,List.append_assoc,List.take_append_of_le_length<|by simp[e6];omega,List.take_take,Nat.min_eq_left<|by omega]
   have b1:K.toList.drop ((i+1)*5)=xs.drop (i*5)++cur.toList.drop ((i+1)*5+(xs.drop<|i*5).length):=by
    rw[hC];show List.drop _ (cur.toList.take ((i+1)*5)++xs.drop (i*5)++_)=_
    have b2:(cur.toList.take<|(i+1)*5).length=(i+1)*5:=by simp[e6];omega
    rw[List.append_assoc];exact(congrArg (λk=>List.drop k<|cur.toList.take ((i+1)*5)++(xs.drop (i*5)++cur.toList.drop ((i+1)*5+(xs.drop<|i*5).length))) b2.symm).trans List.drop_left
   rw[hF];show List.take _ (K.toList.take (i*5)++cs++K.toList.drop (i*5+cs.length))=_
   rw[b0,T,show i*5+5=(i+1)*5 by omega,b1, <- List.append_assoc, <- hy,List.take_left'];rfl
  .exact((hIn.take W i).append hr<|by simp[V,U]).append (hIn.drop i) (by simp[T,V,U];omega)
