/-
  One text.
-/
import Derived.Test.YtodofogcincleaaGreatDoorMDc
import Derived.Lib.Overlaps
set_option linter.all false
set_option maxHeartbeats 4000000
set_option maxRecDepth 1000000
namespace Go.Proofs.YtodofogcincleaaGreatDoor
open NQ Go.RowKit Go.Lib
theorem xM(g n c i vb hE m vc:Nat)(w W1 W2:World)(u1 u2:Value)(hi:i<n)(hm:0<m)(hl:n+m<=c)(hK:c<=9223372036854775807)
 (ke:∀lb cb,(callFunc 223 #[.slice (some ⟨vb,hE,none⟩) m vc,.slice (some ⟨g,(i+m)*5,none⟩) lb cb]).run Tryz.prog w= .ok (.value (.bool false)) w)
 (hX:∀ty,(Builtin.copy_ #[41,41] ty #[.slice (some ⟨g,(i+m)*5,none⟩) (n+m-(i+m)) (c-(i+m)),.slice (some ⟨g,i*5,none⟩) (n+m-i) (c-i)]).run Tryz.prog w.drew= .ok u1 W1)
 (hY:∀ty,(Builtin.copy_ #[41,41] ty #[.slice (some ⟨g,i*5,none⟩) (n+m-i) (c-i),.slice (some ⟨vb,hE,none⟩) m vc]).run Tryz.prog W1= .ok u2 W2) :
 Calls Tryz.prog 184 #[.slice (some ⟨g,0,none⟩) n c,.int .i64 i,.slice (some ⟨vb,hE,none⟩) m vc] w λe w' =>e= .returned (.slice (some ⟨g,0,none⟩) (n+m) c)/\w' =W2:=by
 have mixed:Tryz.prog.follows .mixedOrders=true:=by kernel_rfl
 have kR:¬((m:Int)=0):=by omega
 have kS:¬((i:Int)=(n:Int)):=by omega
 have kT:¬((c:Int)<(n:Int)+(m:Int)):=by omega
 have kM:¬(c=i):=by omega
 have kv:¬(c=i+m):=by omega
 have kP:IntKind.i64.wrap ((i:Int)+(m:Int))=(i:Int)+(m:Int):=by rw[IntKind.wrap_i64];omega
 have kQ:IntKind.i64.wrap ((n:Int)+(m:Int))=(n:Int)+(m:Int):=by rw[IntKind.wrap_i64];omega
 have kJ:(0:Int)<=(i:Int)+(m:Int):=by omega
 have kj:i<=n:=by omega
 have kO:((i:Int)+(m:Int)).toNat=i+m:=by omega
 have kF:((n:Int)+(m:Int)).toNat=n+m:=by omega
 have kK:(i:Int)<=(n:Int)+(m:Int):=by omega
 go_enter Tryz.func184,Tryz.ntmps184
 go_wp2_with (simp only[ke])
 go_region_law_o (refine step_copy_runI rfl _ _ 41 41 rfl (.slice (some ⟨g,(i+m)*5,none⟩) (n+m-(i+m)) (c-(i+m))) (.slice (some ⟨g,i*5,none⟩) (n+m-i) (c-i)) (by simp[Act.eval,Act.put]) (by simp[Act.eval,Act.put]) (hX 3) ?_)
 go_wp2_with (at_builtin;refine wpList_copy_runI _ rfl _ _ 41 41 rfl _ _ rfl rfl (hY _) ?_)
 go_ret
 exact⟨rfl,rfl⟩
theorem KM(rows:List (List D))(i:Nat)(r:List D)(hi:i<=rows.length)(hW:rows.length<=100000)
 (O:Nat->Prop) (w:World) (v u:Value) (xs:List Value) (hO:∀b,O b->b<w.heap.size) (hG:jC cx w) (ks:∀g cells,cx.gl g=some cells-> ¬O g) (hv:∀g,home v=some g->O g)
 (hh:w.ownsRow 0 68 5 v rows.length xs) (km:∀r∈rows,r.length=5/\ ∀d∈r,d.one=true) (ho:∀i r j d,rows[i]? =some r->r[j]? =some d-> ∃u,xs[i*5+j]? =some u/\Rep w O d u)
 (h1:Rep w O (.slice 5 [r]) u) (hB:∀B off n c,u= .slice (some ⟨B,off,none⟩) n c->(∃cur t,w.heap[B]? =some (.cells cur t (0,0)))/\home v≠some B) :
 Calls cx.P 184 #[v,.int .i64 i,u] w λen w' => ∃v' kp,en= .returned v' /\w'.os=w.os/\w'.tape=w.tape/\w'.output=w.output/\w.heap.size<=w'.heap.size /\
  (∀k,k<w.heap.size->home v≠some k->w'.heap[k]? =w.heap[k]?)/\(∀g,home v' =some g->home v=some g\/w.heap.size<=g)/\w'.ownsRow 0 68 5 v' (rows.take i++[r]++rows.drop i).length kp /\(∀q∈rows.take i++[r]++rows.drop i,q.length=5/\ ∀d∈q,d.one=true) /\
  ∀a q j d,(rows.take i++[r]++rows.drop i)[a]? =some q->q[j]? =some d-> ∃z,kp[a*5+j]? =some z/\Rep w O d z:=by
 by_cases hp:∃a,v= .slice a rows.length rows.length
 .exact(KO rows i r hi hW).2 O w v #[.int .i64 i,u] xs hO hG ks hv hh (λ_=>hp) (by decide) km ho rfl (λj d hj=>by
   rcases j with _|_|j
   .cases hj;exact .int _ _
   .cases hj;exact h1
   .simp at hj)
 obtain⟨n,hn⟩:∃n,rows.length=n:=⟨_,rfl⟩
 have hIn:NQ.dR w O 5 rows xs:=ho;have hI:NQ.fy 5 rows:=km;have hD:xs.length=n*5:=by rw[<- hn];exact hh.1
 have kd:=NQ.dR.one hIn hI (by decide) (by rw[hn];exact hD);obtain⟨info,desc,zv,i1,i2,i3,i4,i5,i6,i7,i8,i9,i10⟩:=bo 68 _ rfl;clear i2 i3 i8 i9 i10;have i4:info.size=5:=i4;have i5:info.bytes=80:=i5;have kn:cB cx 41=some (68,_):=rfl;have kg :=h1;cases h1 with|slice _ _ B off n1 hd us kC kI kq kL kl hu kE =>
 obtain rfl:n1=1:=by simpa using kC.symm
 have hC:NQ.fy 5 [r]:=kl;have hM:r.length=5:=(kl r (by simp)).1;obtain⟨⟨hS,tB,hT⟩,kr⟩:=hB _ _ _ _ rfl;by_cases kj:i=n
 . -- at the end
   obtain⟨v',W',news,a1,a2,a3,a4,a5,a6⟩:=pO (ty:=41) bo kn (by decide) kg hh (by rw[hn];simp[maxLen];omega) (by rw[hn];show(n+1)*80<=_;omega);have kG :∃a c,v= .slice a n c/\n<=c/\c<=9223372036854775807:=by
    rcases hh.2 with ⟨e1,e2⟩|⟨g,cap,cur,e1,_,e3,e4,e5,e6,e7⟩
    .exact⟨none,0,by rw[e1,show n=0 from hn.symm.trans e2],(by rw[<- hn,e2];exact Nat.le_refl _),Nat.zero_le _⟩
    .exact⟨_,cap,by rw[e1,hn],by omega,by simpa [maxLen] using e5⟩
   obtain⟨a,c,rfl,kD,hc⟩:=kG;have hf:=qG a n i c B off 1 hd kj w W' v' (by omega) kD hc (λty=>by
    obtain⟨v2,W2,ko,b1,_⟩:=pO (ty:=ty) bo kn (by decide) kg hh (by rw[hn];simp[maxLen];omega) (by rw[hn];show(n+1)*80<=_;omega);have:(Builtin.append_ #[41,41] ty #[.slice a n c,.slice (some ⟨B,off,none⟩) 1 hd])=(Builtin.append_ #[41,41] 41 #[.slice a n c,.slice (some ⟨B,off,none⟩) 1 hd]):=rfl;rw[this];exact a1)
   refine hf.mono ?_;rintro en w' ⟨rfl,rfl⟩;have hN:rows.take i++[r]++rows.drop i=rows++[r]:=by
    rw[List.take_of_length_le (by omega),List.drop_of_length_le (by omega),List.append_nil]
   rw[hN];refine⟨v',xs++news,rfl,a3.os,a3.tape,a3.output,a3.size,λk hk kc=>a3.block k hk λe=>kc ?_,a4,by rw[List.length_append];exact a2,hI.append hC,hIn.append a6 (by rw[hn];exact hD)⟩;cases a <;> simp[Value.ownBlock]at e;simp[home,e]
 .have kA:i<n:=by omega
  rcases hh.2 with ⟨_,e2⟩|⟨g,cap,cur,e1,_,e3,e4,e5,e6,e7⟩
  .omega
  rw[hn]at e1 e7 e4;have hl:n+1<=cap:=by
   have:cap≠n:=λe=>hp ⟨_,by rw[e1,e,hn]⟩
   omega
  subst e1;have hF :B≠g:=λe=>kr (by rw[e];rfl)
  have hK:cap<=9223372036854775807:=by simpa [maxLen] using e5
  have kH:∀q,q<n*5->cur.toList[q]? =xs[q]? :=λq hq=>by
   rw[<- e7,List.getElem?_take,if_pos hq]
  have ke:∀lb cb,(callFunc 223 #[.slice (some ⟨B,off,none⟩) 1 hd,.slice (some ⟨g,(i+1)*5,none⟩) lb cb]).run Tryz.prog w= .ok (.value (.bool false)) w:=λlb cb=>by
   rw[run_callFunc_extern (P:=Tryz.prog) Tryz.func223 (by kernel_rfl) (by kernel_rfl) (by kernel_rfl) (e:=Extern.SlicesOverlaps.overlaps #[41,41] #[4]) (by kernel_rfl),
    Lib.run_overlaps_apart w 41 4 68 Tryz.underlying41 5 Tryz.sizeOf68 ⟨B,off,none⟩ ⟨g,(i+1)*5,none⟩ 1 hd lb cb hF tB 68 hS.size cur.size
     (by simp[World.shape?,hT]) (by simp[World.shape?,e3]) (by omega) (by simp[World.frozen?,hT]) (by simp[World.frozen?,hT])]
   rfl
  have ht:∀q z,cur.toList[q]? =some z->w.cell? ⟨g,q,none⟩=some z:=λq z hq=>by
   simp only[World.cell?,e3];simpa using hq
  have ky:g<w.heap.size:=(bI.1 e3).1;have kb:(xs.drop (i*5)).length=(n-i)*5:=by simp[hD];omega
  have hA:=λty=>tU (P:=Tryz.prog) (w:=w.drew) (dT:=41) (sT:=41) (ty:=ty) (dLen:=n+1-(i+1)) (dCap:=cap-(i+1)) (sLen:=n+1-i) (sCap:=cap-i) (a:=⟨g,i*5,none⟩) (o:=(i+1)*5) (g:=g) (cs:=xs.drop (i*5)) (cur:=cur) (t' :=68) Tryz.underlying41 i1 i4
   (by rw[kb];simp only[Nat.min_def];split <;> omega)
   (λj z hj=>by
    rw[List.getElem?_drop]at hj;rw[de];show w.cell? _=_
    refine ht _ z ?_;have kB:=(aB.1 hj).1;rw[kH _ (by omega)];exact hj)
   e3 (by rw[kb,e6];omega) (λz hz=>kd z (List.mem_of_mem_drop hz))
  obtain⟨R1,hR⟩:∃R1:Array Value,R1=(cur.toList.take ((i+1)*5)++xs.drop (i*5)++cur.toList.drop ((i+1)*5+(xs.drop (i*5)).length)).toArray:=⟨_,rfl⟩
  simp only[<- hR]at hA;have hJ:R1.size=cap*5:=by rw[hR];simp[kb,e6,hD];omega
  obtain⟨W1,hs⟩:∃W1,W1=w.drew.setRow g R1:=⟨_,rfl⟩
  simp only[<- hs]at hA;have ki:W1.heap[g]? =some (.cells R1 68 (0,0)):=by rw[hs];exact setRow_heap w.drew g cur R1 _ _ e3
  have hr:∀k,k≠g->W1.heap[k]? =w.heap[k]? :=λk hk=>by rw[hs];exact setRow_other w.drew g k R1 hk
  obtain⟨cs,hZ⟩:∃cs:List Value,cs=(List.range 5).map (λj=>us 0 j):=⟨_,rfl⟩
  have hx:cs.length=5:=by rw[hZ];simp
  have ka:∀q z,cs[q]? =some z->q<5/\z=us 0 q:=λq z hq=>by
   rw[hZ,bc]at hq;by_cases kf:q<5
   .simp[kf]at hq;exact⟨kf,hq.symm⟩
   .simp[kf]at hq
  have hL:NQ.dR w O 5 [r] cs:=λa r' b d ha hb=>by
   have kt :a=0:=by rcases a with _|a;rfl;simp at ha
   subst kt;obtain rfl:r=r' :=by simpa using ha
   have ku:b<5:=by rw[<- hM];exact(aB.1 hb).1
   exact⟨us 0 b,by rw[hZ];simp[ku],kE 0 r b d rfl hb⟩
  have hy:=NQ.dR.one hL hC (by decide) (by rw[hx];rfl);have hP:∀j z,cs[j]? =some z->W1.cell? ((⟨B,off,none⟩:Addr).add j)=some z:=λj z hj=>by
   obtain⟨kN,rfl⟩:=ka j z hj;have kz:j<r.length:=by omega
   have:=hu 0 r j _ rfl (au kz);rw[de,World.cell?_of_block (a:=⟨B,off+j,none⟩) (hr B hF)];rw[<- this];congr 2
  have kh:=λty=>tU (P:=Tryz.prog) (w:=W1) (dT:=41) (sT:=41) (ty:=ty) (dLen:=n+1-i) (dCap:=cap-i) (sLen:=1) (sCap:=hd) (a:=⟨B,off,none⟩) (o:=i*5) (g:=g) (cs:=cs) (cur:=R1) (t' :=68) Tryz.underlying41 i1 i4
   (by rw[hx];simp only[Nat.min_def];split <;> omega) hP ki (by rw[hx,hJ];omega) hy
  obtain⟨R2,hU⟩:∃R2:Array Value,R2=(R1.toList.take (i*5)++cs++R1.toList.drop (i*5+cs.length)).toArray:=⟨_,rfl⟩
  simp only[<- hU]at kh;have hV:R2.size=cap*5:=by rw[hU];simp[hJ,hx];omega
  have hf:=xM g n cap i B off 1 hd w W1 _ _ _ kA (by omega) hl hK ke hA kh;refine hf.mono ?_;rintro en w' ⟨rfl,rfl⟩;have hg :(rows.take i++[r]++rows.drop i).length=n+1:=by simp[hn];omega
  have hQ :(xs.take (i*5)++cs++xs.drop (i*5)).length=(n+1)*5:=by simp[hx,hD];omega
  refine⟨_,xs.take (i*5)++cs++xs.drop (i*5),rfl,by rw[hs];rfl,by rw[hs];rfl,by rw[hs];rfl,?_,λk hk kc=>?_,λg' kx =>by cases kx;exact .inl rfl,?_,(hI.take i).append hC |>.append (hI.drop i),?_⟩
  .simp only[World.setRow,Array.size_modify];rw[hs];show w.heap.size<=(w.drew.heap.modify g _).size
   rw[Array.size_modify];exact Nat.le_refl _
  .have kk:k≠g:=λe=>kc (by rw[e];rfl)
   rw[setRow_other _ _ _ _ kk];exact hr k kk
  .refine⟨by rw[hg];exact hQ,.inr ⟨g,cap,R2,by rw[hg],Nat.zero_le _,setRow_heap _ g R1 R2 _ _ ki,by rw[hg];exact hl,e5,hV,?_⟩⟩;rw[hg];have b0:R1.toList.take (i*5)=xs.take (i*5):=by
    rw[hR];show List.take _ (cur.toList.take ((i+1)*5)++xs.drop (i*5)++_)=_
    have b3:xs.take (i*5)=cur.toList.take (i*5):=by
     rw[<- e7,List.take_take,Nat.min_eq_left (by omega)]
    rw[b3,List.append_assoc,List.take_append_of_le_length (by simp[e6];omega),List.take_take,Nat.min_eq_left (by omega)]
   have b1:R1.toList.drop ((i+1)*5)=xs.drop (i*5)++cur.toList.drop ((i+1)*5+(xs.drop (i*5)).length):=by
    rw[hR];show List.drop _ (cur.toList.take ((i+1)*5)++xs.drop (i*5)++_)=_
    have b2:(cur.toList.take ((i+1)*5)).length=(i+1)*5:=by simp[e6];omega
    rw[List.append_assoc];exact(congrArg (λk=>List.drop k (cur.toList.take ((i+1)*5)++(xs.drop (i*5)++cur.toList.drop ((i+1)*5+(xs.drop (i*5)).length)))) b2.symm).trans List.drop_left
   rw[hU];show List.take _ (R1.toList.take (i*5)++cs++R1.toList.drop (i*5+cs.length))=_
   rw[b0,hx,show i*5+5=(i+1)*5 by omega,b1, <- List.append_assoc, <- hQ,List.take_left'];rfl
  .exact((hIn.take hI i).append hL (by simp[hD,hn])).append (hIn.drop i) (by simp[hx,hD,hn];omega)
end Go.Proofs.YtodofogcincleaaGreatDoor
