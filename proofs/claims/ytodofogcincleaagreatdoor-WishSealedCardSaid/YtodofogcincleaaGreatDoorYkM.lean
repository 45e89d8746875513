/-
  One text.
-/
import Derived.Test.YtodofogcincleaaGreatDoorMDc
import Derived.Lib.Overlaps
set_option linter.all false
namespace Go.Proofs.YtodofogcincleaaGreatDoor
open NQ Go Go.RowKit Go.Lib
set_option maxHeartbeats 4000000 in
set_option maxRecDepth 1000000 in
theorem wi(g n c i vb voff m vc:Nat)(w W1 W2:World)(u1 u2:Value)(hi:i<n)(hm:0<m)(hroom:n+m<=c)(hc63:c<=9223372036854775807)
 (hov:∀lb cb,(callFunc 223 #[.slice (some ⟨vb,voff,none⟩) m vc,.slice (some ⟨g,(i+m)*5,none⟩) lb cb]).run Tryz.prog w= .ok (.value (.bool false)) w)
 (hcp1:∀ty,(Builtin.copy_ #[41,41] ty #[.slice (some ⟨g,(i+m)*5,none⟩) (n+m-(i+m)) (c-(i+m)),.slice (some ⟨g,i*5,none⟩) (n+m-i) (c-i)]).run Tryz.prog w.drew= .ok u1 W1)
 (hcp2:∀ty,(Builtin.copy_ #[41,41] ty #[.slice (some ⟨g,i*5,none⟩) (n+m-i) (c-i),.slice (some ⟨vb,voff,none⟩) m vc]).run Tryz.prog W1= .ok u2 W2) :
 Calls Tryz.prog 184 #[.slice (some ⟨g,0,none⟩) n c,.int .i64 i,.slice (some ⟨vb,voff,none⟩) m vc] w λe w' =>e= .returned (.slice (some ⟨g,0,none⟩) (n+m) c)/\w' =W2:=by
 have mixed:Tryz.prog.follows .mixedOrders=true:=by kernel_rfl
 have hz1:¬((m:Int)=0):=by omega
 have hz2:¬((i:Int)=(n:Int)):=by omega
 have hz3:¬((c:Int)<(n:Int)+(m:Int)):=by omega
 have hci:¬(c=i):=by omega
 have hcim:¬(c=i+m):=by omega
 have hw1:IntKind.i64.wrap ((i:Int)+(m:Int))=(i:Int)+(m:Int):=by rw[IntKind.wrap_i64];omega
 have hw2:IntKind.i64.wrap ((n:Int)+(m:Int))=(n:Int)+(m:Int):=by rw[IntKind.wrap_i64];omega
 have hb1:(0:Int)<=(i:Int)+(m:Int):=by omega
 have hin:i<=n:=by omega
 have htn:((i:Int)+(m:Int)).toNat=i+m:=by omega
 have htn2:((n:Int)+(m:Int)).toNat=n+m:=by omega
 have hb3:(i:Int)<=(n:Int)+(m:Int):=by omega
 go_enter Tryz.func184,Tryz.ntmps184
 go_wp2_with (simp only[hov])
 go_region_law_o (refine step_copy_runI rfl _ _ 41 41 rfl (.slice (some ⟨g,(i+m)*5,none⟩) (n+m-(i+m)) (c-(i+m))) (.slice (some ⟨g,i*5,none⟩) (n+m-i) (c-i)) (by simp[Act.eval,Act.put]) (by simp[Act.eval,Act.put]) (hcp1 3) ?_)
 go_wp2_with (at_builtin;refine wpList_copy_runI _ rfl _ _ 41 41 rfl _ _ rfl rfl (hcp2 _) ?_)
 go_ret
 exact⟨rfl,rfl⟩
theorem IV(rows:List (List D))(i:Nat)(r:List D)(hi:i<=rows.length)(hbig:rows.length<=100000)
 (O:Nat->Prop) (w:World) (v u:Value) (xs:List Value) (hO:∀b,O b->b<w.heap.size) (hG:iN cx w) (hGO:∀g cells,cx.gl g=some cells-> ¬O g) (hv:∀g,home v=some g->O g)
 (hown:w.ownsRow 0 68 5 v rows.length xs) (hrl:∀r∈rows,r.length=5/\ ∀d∈r,d.one=true) (hcell:∀i r j d,rows[i]? =some r->r[j]? =some d-> ∃u,xs[i*5+j]? =some u/\Rep w O d u)
 (h1:Rep w O (.slice 5 [r]) u) (hB:∀B off n c,u= .slice (some ⟨B,off,none⟩) n c->(∃cur t,w.heap[B]? =some (.cells cur t (0,0)))/\home v≠some B) :
 Calls cx.P 184 #[v,.int .i64 i,u] w λen w' => ∃v' xs',en= .returned v' /\w'.os=w.os/\w'.tape=w.tape/\w'.output=w.output/\w.heap.size<=w'.heap.size /\
  (∀k,k<w.heap.size->home v≠some k->w'.heap[k]? =w.heap[k]?)/\(∀g,home v' =some g->home v=some g\/w.heap.size<=g)/\w'.ownsRow 0 68 5 v' (rows.take i++[r]++rows.drop i).length xs' /\(∀q∈rows.take i++[r]++rows.drop i,q.length=5/\ ∀d∈q,d.one=true) /\
  ∀a q j d,(rows.take i++[r]++rows.drop i)[a]? =some q->q[j]? =some d-> ∃z,xs'[a*5+j]? =some z/\Rep w O d z:=by
 by_cases hfull:∃a,v= .slice a rows.length rows.length
 . exact(IX rows i r hi hbig).2 O w v #[.int .i64 i,u] xs hO hG hGO hv hown (λ_=>hfull) (by decide) hrl hcell rfl (λj d hj=>by
    rcases j with _|_|j
    . cases hj;exact .int _ _
    . cases hj;exact h1
    . simp at hj)
 obtain⟨n,hn⟩:∃n,rows.length=n:=⟨_,rfl⟩
 have hIn:NQ.dq w O 5 rows xs:=hcell;have hOk:NQ.eJ 5 rows:=hrl;have hxl:xs.length=n*5:=by rw[<- hn];exact hown.1
 have hone:=NQ.dq.one hIn hOk (by decide) (by rw[hn];exact hxl);obtain⟨info,desc,zv,i1,i2,i3,i4,i5,i6,i7,i8,i9,i10⟩:=aV 68 _ rfl;clear i2 i3 i8 i9 i10;have i4:info.size=5:=i4;have i5:info.bytes=80:=i5;have hse:bO cx 41=some (68,_):=rfl;have h1' :=h1;cases h1 with|slice _ _ B off n1 cap1 us hn1 hBO hBlt hc1 hl1 hu hr1 =>
 obtain rfl:n1=1:=by simpa using hn1.symm
 have hrok:NQ.eJ 5 [r]:=hl1;have hrlen:r.length=5:=(hl1 r (by simp)).1;obtain⟨⟨curB,tB,hBg⟩,hBv⟩:=hB _ _ _ _ rfl;by_cases hin:i=n
 . -- at the end
   obtain⟨v',W',news,a1,a2,a3,a4,a5,a6⟩:=oW (ty:=41) aV hse (by decide) h1' hown (by rw[hn];simp[maxLen];omega) (by rw[hn];show(n+1)*80<=_;omega);have hv' :∃a c,v= .slice a n c/\n<=c/\c<=9223372036854775807:=by
    rcases hown.2 with ⟨e1,e2⟩|⟨g,cap,cur,e1,_,e3,e4,e5,e6,e7⟩
    . exact⟨none,0,by rw[e1,show n=0 from hn.symm.trans e2],(by rw[<- hn,e2];exact Nat.le_refl _),Nat.zero_le _⟩
    . exact⟨_,cap,by rw[e1,hn],by omega,by simpa [maxLen] using e5⟩
   obtain⟨a,c,rfl,hnc,hc⟩:=hv';have hcalls:=pS a n i c B off 1 cap1 hin w W' v' (by omega) hnc hc (λty=>by
    obtain⟨v2,W2,news2,b1,_⟩:=oW (ty:=ty) aV hse (by decide) h1' hown (by rw[hn];simp[maxLen];omega) (by rw[hn];show(n+1)*80<=_;omega);have:(Builtin.append_ #[41,41] ty #[.slice a n c,.slice (some ⟨B,off,none⟩) 1 cap1])=(Builtin.append_ #[41,41] 41 #[.slice a n c,.slice (some ⟨B,off,none⟩) 1 cap1]):=rfl;rw[this];exact a1)
   refine hcalls.mono ?_;rintro en w' ⟨rfl,rfl⟩;have hrows:rows.take i++[r]++rows.drop i=rows++[r]:=by
    rw[List.take_of_length_le (by omega),List.drop_of_length_le (by omega),List.append_nil]
   rw[hrows];refine⟨v',xs++news,rfl,a3.os,a3.tape,a3.output,a3.size,λk hk hne=>a3.block k hk λe=>hne ?_,a4,by rw[List.length_append];exact a2,hOk.append hrok,hIn.append a6 (by rw[hn];exact hxl)⟩;cases a <;> simp[Value.ownBlock]at e;simp[home,e]
 . have hlt:i<n:=by omega
   rcases hown.2 with ⟨_,e2⟩|⟨g,cap,cur,e1,_,e3,e4,e5,e6,e7⟩
   . omega
   rw[hn]at e1 e7 e4;have hroom:n+1<=cap:=by
    have:cap≠n:=λe=>hfull ⟨_,by rw[e1,e,hn]⟩
    omega
   subst e1;have hBg' :B≠g:=λe=>hBv (by rw[e];rfl)
   have hc63:cap<=9223372036854775807:=by simpa [maxLen] using e5
   have hxt:∀q,q<n*5->cur.toList[q]? =xs[q]? :=λq hq=>by
    rw[<- e7,List.getElem?_take,if_pos hq]
   have hov:∀lb cb,(callFunc 223 #[.slice (some ⟨B,off,none⟩) 1 cap1,.slice (some ⟨g,(i+1)*5,none⟩) lb cb]).run Tryz.prog w= .ok (.value (.bool false)) w:=λlb cb=>by
    rw[run_callFunc_extern (P:=Tryz.prog) Tryz.func223 (by kernel_rfl) (by kernel_rfl) (by kernel_rfl) (e:=Extern.SlicesOverlaps.overlaps #[41,41] #[4]) (by kernel_rfl),
     Lib.run_overlaps_apart w 41 4 68 Tryz.underlying41 5 Tryz.sizeOf68 ⟨B,off,none⟩ ⟨g,(i+1)*5,none⟩ 1 cap1 lb cb hBg' tB 68 curB.size cur.size
      (by simp[World.shape?,hBg]) (by simp[World.shape?,e3]) (by omega) (by simp[World.frozen?,hBg]) (by simp[World.frozen?,hBg])]
    rfl
   have hcellg:∀q z,cur.toList[q]? =some z->w.cell? ⟨g,q,none⟩=some z:=λq z hq=>by
    simp only[World.cell?,e3];simpa using hq
   have hglt:g<w.heap.size:=(bj.1 e3).1;have hdl:(xs.drop (i*5)).length=(n-i)*5:=by simp[hxl];omega
   have hA:=λty=>sJ (P:=Tryz.prog) (w:=w.drew) (dT:=41) (sT:=41) (ty:=ty) (dLen:=n+1-(i+1)) (dCap:=cap-(i+1)) (sLen:=n+1-i) (sCap:=cap-i) (a:=⟨g,i*5,none⟩) (o:=(i+1)*5) (g:=g) (cs:=xs.drop (i*5)) (cur:=cur) (t' :=68) Tryz.underlying41 i1 i4
    (by rw[hdl];simp only[Nat.min_def];split <;> omega)
    (λj z hj=>by
     rw[List.getElem?_drop]at hj;rw[cC];show w.cell? _=_
     refine hcellg _ z ?_;have hlt2:=(aq.1 hj).1;rw[hxt _ (by omega)];exact hj)
    e3 (by rw[hdl,e6];omega) (λz hz=>hone z (List.mem_of_mem_drop hz))
   obtain⟨R1,hR1⟩:∃R1:Array Value,R1=(cur.toList.take ((i+1)*5)++xs.drop (i*5)++cur.toList.drop ((i+1)*5+(xs.drop (i*5)).length)).toArray:=⟨_,rfl⟩
   simp only[<- hR1]at hA;have hR1s:R1.size=cap*5:=by rw[hR1];simp[hdl,e6,hxl];omega
   obtain⟨W1,hW1⟩:∃W1,W1=w.drew.setRow g R1:=⟨_,rfl⟩
   simp only[<- hW1]at hA;have hg1:W1.heap[g]? =some (.cells R1 68 (0,0)):=by rw[hW1];exact setRow_heap w.drew g cur R1 _ _ e3
   have hoth1:∀k,k≠g->W1.heap[k]? =w.heap[k]? :=λk hk=>by rw[hW1];exact setRow_other w.drew g k R1 hk
   obtain⟨cs,hcs⟩:∃cs:List Value,cs=(List.range 5).map (λj=>us 0 j):=⟨_,rfl⟩
   have hcl:cs.length=5:=by rw[hcs];simp
   have hcsg:∀q z,cs[q]? =some z->q<5/\z=us 0 q:=λq z hq=>by
    rw[hcs,aN]at hq;by_cases hq5:q<5
    . simp[hq5]at hq;exact⟨hq5,hq.symm⟩
    . simp[hq5]at hq
   have hrIn:NQ.dq w O 5 [r] cs:=λa r' b d ha hb=>by
    have ha' :a=0:=by rcases a with _|a;rfl;simp at ha
    subst ha';obtain rfl:r=r' :=by simpa using ha
    have hb5:b<5:=by rw[<- hrlen];exact(aq.1 hb).1
    exact⟨us 0 b,by rw[hcs];simp[hb5],hr1 0 r b d rfl hb⟩
   have hcsone:=NQ.dq.one hrIn hrok (by decide) (by rw[hcl];rfl);have hsrc1:∀j z,cs[j]? =some z->W1.cell? ((⟨B,off,none⟩:Addr).add j)=some z:=λj z hj=>by
    obtain⟨hj5,rfl⟩:=hcsg j z hj;have hjr:j<r.length:=by omega
    have:=hu 0 r j _ rfl (aj hjr);rw[cC,World.cell?_of_block (a:=⟨B,off+j,none⟩) (hoth1 B hBg')];rw[<- this];congr 2
   have hBc:=λty=>sJ (P:=Tryz.prog) (w:=W1) (dT:=41) (sT:=41) (ty:=ty) (dLen:=n+1-i) (dCap:=cap-i) (sLen:=1) (sCap:=cap1) (a:=⟨B,off,none⟩) (o:=i*5) (g:=g) (cs:=cs) (cur:=R1) (t' :=68) Tryz.underlying41 i1 i4
    (by rw[hcl];simp only[Nat.min_def];split <;> omega) hsrc1 hg1 (by rw[hcl,hR1s];omega) hcsone
   obtain⟨R2,hR2⟩:∃R2:Array Value,R2=(R1.toList.take (i*5)++cs++R1.toList.drop (i*5+cs.length)).toArray:=⟨_,rfl⟩
   simp only[<- hR2]at hBc;have hR2s:R2.size=cap*5:=by rw[hR2];simp[hR1s,hcl];omega
   have hcalls:=wi g n cap i B off 1 cap1 w W1 _ _ _ hlt (by omega) hroom hc63 hov hA hBc;refine hcalls.mono ?_;rintro en w' ⟨rfl,rfl⟩;have hlen' :(rows.take i++[r]++rows.drop i).length=n+1:=by simp[hn];omega
   have hxs' :(xs.take (i*5)++cs++xs.drop (i*5)).length=(n+1)*5:=by simp[hcl,hxl];omega
   refine⟨_,xs.take (i*5)++cs++xs.drop (i*5),rfl,by rw[hW1];rfl,by rw[hW1];rfl,by rw[hW1];rfl,?_,λk hk hne=>?_,λg' hg' =>by cases hg';exact .inl rfl,?_,(hOk.take i).append hrok |>.append (hOk.drop i),?_⟩
   . simp only[World.setRow,Array.size_modify];rw[hW1];show w.heap.size<=(w.drew.heap.modify g _).size
     rw[Array.size_modify];exact Nat.le_refl _
   . have hkg:k≠g:=λe=>hne (by rw[e];rfl)
     rw[setRow_other _ _ _ _ hkg];exact hoth1 k hkg
   . refine⟨by rw[hlen'];exact hxs',.inr ⟨g,cap,R2,by rw[hlen'],Nat.zero_le _,setRow_heap _ g R1 R2 _ _ hg1,by rw[hlen'];exact hroom,e5,hR2s,?_⟩⟩;rw[hlen'];have b0:R1.toList.take (i*5)=xs.take (i*5):=by
      rw[hR1];show List.take _ (cur.toList.take ((i+1)*5)++xs.drop (i*5)++_)=_
      have b3:xs.take (i*5)=cur.toList.take (i*5):=by
       rw[<- e7,List.take_take,Nat.min_eq_left (by omega)]
      rw[b3,List.append_assoc,List.take_append_of_le_length (by simp[e6];omega),List.take_take,Nat.min_eq_left (by omega)]
     have b1:R1.toList.drop ((i+1)*5)=xs.drop (i*5)++cur.toList.drop ((i+1)*5+(xs.drop (i*5)).length):=by
      rw[hR1];show List.drop _ (cur.toList.take ((i+1)*5)++xs.drop (i*5)++_)=_
      have b2:(cur.toList.take ((i+1)*5)).length=(i+1)*5:=by simp[e6];omega
      rw[List.append_assoc];exact(congrArg (λk=>List.drop k (cur.toList.take ((i+1)*5)++(xs.drop (i*5)++cur.toList.drop ((i+1)*5+(xs.drop (i*5)).length)))) b2.symm).trans List.drop_left
     rw[hR2];show List.take _ (R1.toList.take (i*5)++cs++R1.toList.drop (i*5+cs.length))=_
     rw[b0,hcl,show i*5+5=(i+1)*5 by omega,b1, <- List.append_assoc, <- hxs',List.take_left'];rfl
   . exact((hIn.take hOk i).append hrIn (by simp[hxl,hn])).append (hIn.drop i) (by simp[hcl,hxl,hn];omega)
end Go.Proofs.YtodofogcincleaaGreatDoor
