/-
  Merged texts.
-/
import Derived.Test.YtodofogcincleaaGreatDoorTyM
import Derived.WalkKit
import Derived.Deep.RegionLaw
import Derived.Lib.Walk
import Derived.Lib.AppendZerosOnto
import Derived.Laws.NewBlocks
import Derived.Shelf.RegionOpenPlain
import Derived.Shelf.Spec.SlicesInsert
import Derived.Lib.Hide
set_option linter.all false
namespace Go.Proofs.YtodofogcincleaaGreatDoor
open NQ Go Go.RowKit Go.Lib
set_option maxHeartbeats 4000000 in
set_option maxRecDepth 1000000 in
theorem DU(g n c i vb voff m vc N G:Nat)(w W1 W2 W3:World)(u1 u2:Value)(hi:i<n)(hm:0<m)(hnc:n<=c)(hroom:c<n+m)(hbig:(n+m)*1000<=140737488355328)(hGn:n+m<=G)(hG63:G<=9223372036854775807)
 (hrz:∀ty,(Builtin.append_ #[41,3] ty #[.slice (some ⟨g,0,none⟩) i c,.int .i64 ((n:Int)+(m:Int)-(i:Int))]).run Tryz.prog w= .ok (.slice (some ⟨N,0,none⟩) (n+m) G) W1)
 (hcpA:∀ty,(Builtin.copy_ #[41,41] ty #[.slice (some ⟨N,i*5,none⟩) (n+m-i) (G-i),.slice (some ⟨vb,voff,none⟩) m vc]).run Tryz.prog W1= .ok u1 W2)
 (hcpB:∀ty,(Builtin.copy_ #[41,41] ty #[.slice (some ⟨N,(i+m)*5,none⟩) (n+m-(i+m)) (G-(i+m)),.slice (some ⟨g,i*5,none⟩) (n-i) (c-i)]).run Tryz.prog W2.drew= .ok u2 W3) :
 Calls Tryz.prog 184 #[.slice (some ⟨g,0,none⟩) n c,.int .i64 i,.slice (some ⟨vb,voff,none⟩) m vc] w λe w' =>e= .returned (.slice (some ⟨N,0,none⟩) (n+m) G)/\w' =W3:=by
 have mixed:Tryz.prog.follows .mixedOrders=true:=by kernel_rfl
 have hz1:¬((m:Int)=0):=by omega
 have hz2:¬((i:Int)=(n:Int)):=by omega
 have hz3:(c:Int)<(n:Int)+(m:Int):=by omega
 have hGi:¬(G=i):=by omega
 have hGim:¬(G=i+m):=by omega
 have hci:¬(c=i):=by omega
 have hw1:IntKind.i64.wrap ((i:Int)+(m:Int))=(i:Int)+(m:Int):=by rw[IntKind.wrap_i64];omega
 have hb1:(0:Int)<=(i:Int)+(m:Int):=by omega
 have hin:i<=n:=by omega
 have htn:((i:Int)+(m:Int)).toNat=i+m:=by omega
 have hb3:(i:Int)<=(n:Int):=by omega
 go_enter Tryz.func184,Tryz.ntmps184
 go_wp2_with (first
  |(at_builtin;refine Lib.wpList_append_run _ rfl _ _ _ _ rfl _ _ rfl rfl _ _ (hrz _) ?_)
  |(at_builtin;refine wpList_copy_runI _ rfl _ _ 41 41 rfl _ _ rfl rfl (hcpA _) ?_))
 go_region_law_o (refine step_copy_runI rfl _ _ 41 41 rfl (.slice (some ⟨N,(i+m)*5,none⟩) (n+m-(i+m)) (G-(i+m))) (.slice (some ⟨g,i*5,none⟩) (n-i) (c-i)) (by simp[Act.eval,Act.put]) (by simp[Act.eval,Act.put]) (hcpB 3) ?_)
 go_wp2
 go_ret
 exact⟨rfl,rfl⟩
end Go.Proofs.YtodofogcincleaaGreatDoor
namespace NQ
open Go Go.RowKit
theorem sJ{P:Program}{w:World}{dT sT ty elem t' :TypeId}{info:TypeInfo}{g o dLen dCap sLen sCap sz:Nat}{a:Addr}{cs:List Value}{cur:Array Value}(hu:P.underlying dT=some (.slice elem))(hi:P.info? elem=some info)(hs:info.size=sz)
 (hn:cs.length=Nat.min sLen dLen*sz) (hsrc:∀j v,cs[j]? =some v->w.cell? (a.add j)=some v) (hg:w.heap[g]? =some (.cells cur t' (0,0))) (hl:o+cs.length<=cur.size) (h1:∀v∈cs,v.oneCell' =true) :
 (Builtin.copy_ #[dT,sT] ty #[.slice (some ⟨g,o,none⟩) dLen dCap,.slice (some a) sLen sCap]).run P w= .ok (goInt (Nat.min sLen dLen)) (w.setRow g (cur.toList.take o++cs++cur.toList.drop (o+cs.length)).toArray):=by
 have hl' :=run_loadCells_list (P:=P) w a cs hsrc;have hst:=run_storeCells_at P g o t' cs 0 cur w hg (by simpa using hl) h1;simp only[Nat.add_zero]at hst;simp[Builtin.copy_,run_underlying hu,Builtin.lenOf,Builtin.firstCells,Go.sizeOf,typeInfo,hi,hs, <- hn,hl',hst]
end NQ
namespace Go.Proofs.YtodofogcincleaaGreatDoor
open NQ Go Go.RowKit Go.Lib
set_option maxHeartbeats 4000000 in
set_option maxRecDepth 1000000 in
theorem pS(a:Option Addr)(n i c vb voff m vc:Nat)(hin:i=n)(w W1:World)(u1:Value)(hm:0<m)(hnc:n<=c)(hc:c<=9223372036854775807)
 (hap:∀ty,(Builtin.append_ #[41,41] ty #[.slice a n c,.slice (some ⟨vb,voff,none⟩) m vc]).run Tryz.prog w= .ok u1 W1) :
 Calls Tryz.prog 184 #[.slice a n c,.int .i64 i,.slice (some ⟨vb,voff,none⟩) m vc] w λe w' =>e= .returned u1/\w' =W1:=by
 have mixed:Tryz.prog.follows .mixedOrders=true:=by kernel_rfl
 have hz1:¬((m:Int)=0):=by omega
 have hz2:(i:Int)=(n:Int):=by omega
 have hi:i<=n:=by omega
 clear hin
 go_enter Tryz.func184,Tryz.ntmps184
 go_wp2_with (at_builtin;refine Lib.wpList_append_run _ rfl _ _ _ _ rfl _ _ rfl rfl _ _ (hap _) ?_)
 all_goals (go_ret;exact⟨rfl,rfl⟩)
theorem IX(rows:List (List D))(i:Nat)(r:List D)(hi:i<=rows.length)(hbig:rows.length<=100000) :
 Ro cx 184 true 68 5 rows true [.int .i64 i,.slice 5 [r]] (rows.take i++[r]++rows.drop i):=by
 refine⟨⟨_,Tryz.func184,by kernel_rfl,by kernel_rfl⟩,λO w v vs xs hO hG hGO hv hown hfl hsz hrl hcell hvs hrep=>?_⟩;have hvs2:=wh hvs;have h0:=vZ (hrep 0 _ rfl);have h1:Rep w O (.slice 5 [r]) (vs.getD 1 Go.undef):=hrep 1 _ rfl;rw[h0]at hvs2;generalize hu1:vs.getD 1 Go.undef=u1 at h1 hvs2;obtain⟨n,hn⟩:∃n,rows.length=n:=⟨_,rfl⟩
 have hIn:NQ.dq w O 5 rows xs:=hcell;have hOk:NQ.eJ 5 rows:=hrl;have hxl:xs.length=n*5:=by rw[<- hn];exact hown.1
 have hone:=NQ.dq.one hIn hOk hsz (by rw[hn];exact hxl);obtain⟨info,desc,zv,i1,i2,i3,i4,i5,i6,i7,i8,i9,i10⟩:=aV 68 _ rfl;clear i2 i3 i8 i9 i10;have i4:info.size=5:=i4;have i5:info.bytes=80:=i5;have i7:zv.cells.size=5:=i7;have hse:bO cx 41=some (68,_):=rfl;have h1' :=h1;cases h1 with|slice _ _ B off n1 cap1 us hn1 hBO hB hc1 hl1 hu hr1 =>
 obtain rfl:n1=1:=by simpa using hn1.symm
 have hrok:NQ.eJ 5 [r]:=hl1;have hrlen:r.length=5:=(hl1 r (by simp)).1;by_cases hin:i=n
 . -- at the end
   obtain⟨v',W',news,a1,a2,a3,a4,a5,a6⟩:=oW (ty:=41) aV hse (by decide) h1' hown (by rw[hn];simp[maxLen];omega) (by rw[hn];show(n+1)*80<=_;omega);have hv' :∃a c,v= .slice a n c/\n<=c/\c<=9223372036854775807:=by
    rcases hown.2 with ⟨e1,e2⟩|⟨g,cap,cur,e1,_,e3,e4,e5,e6,e7⟩
    . exact⟨none,0,by rw[e1,show n=0 from hn.symm.trans e2],(by rw[<- hn,e2];exact Nat.le_refl _),Nat.zero_le _⟩
    . exact⟨_,cap,by rw[e1,hn],by omega,by simpa [maxLen] using e5⟩
   obtain⟨a,c,rfl,hnc,hc⟩:=hv';have hcalls:=pS a n i c B off 1 cap1 hin w W' v' (by omega) hnc hc (λty=>by
    obtain⟨v2,W2,news2,b1,_⟩:=oW (ty:=ty) aV hse (by decide) h1' hown (by rw[hn];simp[maxLen];omega) (by rw[hn];show(n+1)*80<=_;omega);have:(Builtin.append_ #[41,41] ty #[.slice a n c,.slice (some ⟨B,off,none⟩) 1 cap1])=(Builtin.append_ #[41,41] 41 #[.slice a n c,.slice (some ⟨B,off,none⟩) 1 cap1]):=rfl;rw[this];exact a1)
   rw[hvs2];refine hcalls.mono ?_;rintro en w' ⟨rfl,rfl⟩;have hrows:rows.take i++[r]++rows.drop i=rows++[r]:=by
    rw[List.take_of_length_le (by omega),List.drop_of_length_le (by omega),List.append_nil]
   rw[hrows];refine⟨v',xs++news,rfl,a3.os,a3.tape,a3.output,a3.size,λk hk hne=>a3.block k hk λe=>hne ?_,a4,by rw[List.length_append];exact a2,hOk.append hrok,hIn.append a6 (by rw[hn];exact hxl)⟩;cases a <;> simp[Value.ownBlock]at e;simp[home,e]
 . have hlt:i<n:=by omega
   rcases hown.2 with ⟨_,e2⟩|⟨g,cap,cur,e1,_,e3,e4,e5,e6,e7⟩
   . omega
   obtain⟨a0,ha0⟩:=hfl rfl;have hcn:cap=rows.length:=by rw[e1]at ha0;exact(Value.slice.inj ha0).2.2
   obtain rfl:cap=n:=hcn.trans hn;rw[hn]at e1 e7;subst e1;have hxc:xs=cur.toList:=by rw[<- e7,List.take_of_length_le (by simp[e6])]
   have hcellx:∀q u,xs[q]? =some u->w.cell? ⟨g,q,none⟩=some u:=λq u hq=>by
    simp only[World.cell?,e3];rw[hxc]at hq;simpa using hq
   have hglt:g<w.heap.size:=(bj.1 e3).1;obtain⟨G,hG0⟩:∃G,G=grownCap w (cap+1) cap 68:=⟨_,rfl⟩
   have hGn:cap+1<=G:=by rw[hG0];exact grownCap_ge w _ _ _
   have hGm:G<=maxLen:=by rw[hG0];exact grownCap_le_maxLen w _ _ _ (by simp[maxLen];omega)
   obtain⟨ROW,hROW⟩:∃ROW:Array Value,ROW=(xs.take (i*5)).toArray++Builtin.zeroCells zv.cells (cap+1-i)++Builtin.zeroCells zv.cells (G-(cap+1)):=⟨_,rfl⟩
   have hz5:zv.cells.size=5:=i7;have hRs:ROW.size=G*5:=by rw[hROW];simp[Builtin.zeroCells,hz5,hxl];omega
   have hRt:ROW.toList.take (i*5)=xs.take (i*5):=by
    rw[hROW];simp only[Array.toList_append,List.append_assoc];rw[List.take_append_of_le_length (by simp[hxl];omega),List.take_take,Nat.min_self]
   have hold:(Builtin.firstCells info.size i (.slice (some ⟨g,0,none⟩) i cap)).run cx.P w.drew= .ok (xs.take (i*5)).toArray w.drew :=
    run_firstCells_some w.drew info.size i ⟨g,0,none⟩ i cap (xs.take (i*5)) (by rw[i4];simp[hxl];omega) (λq u hq=>by
     rw[cC,Nat.zero_add];rw[List.getElem?_take]at hq;split at hq
     . exact hcellx q u hq
     . cases hq)
   have hrz:∀ty,(Builtin.append_ #[41,3] ty #[.slice (some ⟨g,0,none⟩) i cap,.int .i64 ((cap:Int)+((1:Nat):Int)-(i:Int))]).run Tryz.prog w= .ok (.slice (some ⟨w.heap.size,0,none⟩) (cap+1) G) (w.drew.alloc (.cells ROW 68)):=λty=>by
    have h:=Lib.run_append_grow_zeros (P:=Tryz.prog) w 41 3 ty 68 info zv .i64 .i64 Tryz.underlying41 Tryz.underlying3 i1 i6 (some ⟨g,0,none⟩) i cap (xs.take (i*5)) hold (cap+1-i) (by omega) (by rw[i4];decide) (by omega) (by omega) (by rw[i5];show(cap+1-i)*80<=_;omega)
     (by rw[i5,show i+(cap+1-i)=cap+1 by omega];exact growslice_fits (by omega) (by show(cap+1)*80<=_;omega))
    rw[show i+(cap+1-i)=cap+1 by omega, <- hG0, <- hROW]at h;rw[show(cap:Int)+((1:Nat):Int)-(i:Int)=((cap+1-i:Nat):Int) by omega];exact h
   obtain⟨W1,hW1⟩:∃W1,W1=w.drew.alloc (.cells ROW 68):=⟨_,rfl⟩
   rw[<- hW1]at hrz;have hg1:W1.heap[w.heap.size]? =some (.cells ROW 68 (0,0)):=by rw[hW1];exact heap_alloc_new w.drew _
   have hold1:∀k,k<w.heap.size->W1.heap[k]? =w.heap[k]? :=λk hk=>by rw[hW1];exact heap_alloc_old w.drew _ hk
   obtain⟨cs,hcs⟩:∃cs:List Value,cs=(List.range 5).map (λj=>us 0 j):=⟨_,rfl⟩
   have hcl:cs.length=5:=by rw[hcs];simp
   have hcsg:∀q u,cs[q]? =some u->q<5/\u=us 0 q:=λq u hq=>by
    rw[hcs,aN]at hq;by_cases hq5:q<5
    . simp[hq5]at hq;exact⟨hq5,hq.symm⟩
    . simp[hq5]at hq
   have hrIn:NQ.dq w O 5 [r] cs:=λa r' b d ha hb=>by
    have ha' :a=0:=by rcases a with _|a;rfl;simp at ha
    subst ha';obtain rfl:r=r' :=by simpa using ha
    have hb5:b<5:=by rw[<- hrlen];exact(aq.1 hb).1
    exact⟨us 0 b,by rw[hcs];simp[hb5],hr1 0 r b d rfl hb⟩
   have hcsone:=NQ.dq.one hrIn hrok hsz (by rw[hcl];rfl);have hsrc1:∀j u,cs[j]? =some u->W1.cell? ((⟨B,off,none⟩:Addr).add j)=some u:=λj u hj=>by
    obtain⟨hj5,rfl⟩:=hcsg j u hj;have hjr:j<r.length:=by omega
    have:=hu 0 r j _ rfl (aj hjr);rw[cC,World.cell?_of_block (a:=⟨B,off+j,none⟩) (hold1 B hB)];rw[<- this];congr 2
   have hA:=λty=>sJ (P:=Tryz.prog) (w:=W1) (dT:=41) (sT:=41) (ty:=ty) (dLen:=cap+1-i) (dCap:=G-i) (sLen:=1) (sCap:=cap1) (a:=⟨B,off,none⟩) (o:=i*5) Tryz.underlying41 i1 i4 (by rw[hcl];show 5=Nat.min 1 (cap+1-i)*5;rw[show Nat.min 1 (cap+1-i)=1 from Nat.min_eq_left (by omega)]) hsrc1 hg1 (by rw[hcl,hRs];omega) hcsone
   obtain⟨R2,hR2⟩:∃R2:Array Value,R2=(ROW.toList.take (i*5)++cs++ROW.toList.drop (i*5+cs.length)).toArray:=⟨_,rfl⟩
   simp only[<- hR2]at hA;have hR2s:R2.size=G*5:=by rw[hR2];simp[hRs,hcl];omega
   have hg2:(W1.setRow w.heap.size R2).drew.heap[w.heap.size]? =some (.cells R2 68 (0,0)):=setRow_heap W1 w.heap.size ROW R2 _ _ hg1;have hsrc2:∀j u,(xs.drop (i*5))[j]? =some u->(W1.setRow w.heap.size R2).drew.cell? ((⟨g,i*5,none⟩:Addr).add j)=some u:=λj u hj=>by
    rw[List.getElem?_drop]at hj;rw[cC];show(W1.setRow w.heap.size R2).cell? _=_
    rw[World.cell?_of_block (a:=⟨g,i*5+j,none⟩) ((setRow_other W1 w.heap.size g R2 (by omega)).trans (hold1 g hglt))];exact hcellx _ u hj
   have hdl:(xs.drop (i*5)).length=(cap-i)*5:=by simp[hxl];omega
   have hBc:=λty=>sJ (P:=Tryz.prog) (w:=(W1.setRow w.heap.size R2).drew) (dT:=41) (sT:=41) (ty:=ty) (dLen:=cap+1-(i+1)) (dCap:=G-(i+1)) (sLen:=cap-i) (sCap:=cap-i) (a:=⟨g,i*5,none⟩) (o:=(i+1)*5) Tryz.underlying41 i1 i4 (by rw[hdl];show(cap-i)*5=Nat.min (cap-i) (cap+1-(i+1))*5;rw[show Nat.min (cap-i) (cap+1-(i+1))=cap-i from Nat.min_eq_left (by omega)]) hsrc2 hg2 (by rw[hdl,hR2s];omega) (λu hu=>hone u (List.mem_of_mem_drop hu))
   have hcalls:=DU g cap cap i B off 1 cap1 w.heap.size G w W1 _ _ _ _ hlt (by omega) (Nat.le_refl _) (by omega) (by omega) hGn (by simpa [maxLen] using hGm) hrz hA hBc;rw[hvs2];refine hcalls.mono ?_;rintro en w' ⟨rfl,rfl⟩;have hlen' :(rows.take i++[r]++rows.drop i).length=cap+1:=by simp[hn];omega
   have hxs' :(xs.take (i*5)++cs++xs.drop (i*5)).length=(cap+1)*5:=by simp[hcl,hxl];omega
   refine⟨_,xs.take (i*5)++cs++xs.drop (i*5),rfl,by rw[hW1];rfl,by rw[hW1];rfl,by rw[hW1];rfl,?_,λk hk hne=>?_,λg' hg' =>by cases hg';exact .inr (Nat.le_refl _),?_,(hOk.take i).append hrok |>.append (hOk.drop i),?_⟩
   . simp only[World.setRow,World.drew,Array.size_modify];rw[hW1];simp[World.alloc]
   . rw[setRow_other _ _ _ _ (by omega)];show(W1.setRow w.heap.size R2).heap[k]? =_
     rw[setRow_other _ _ _ _ (by omega)];exact hold1 k hk
   . refine⟨by rw[hlen'];exact hxs',.inr ⟨w.heap.size,G,_,by rw[hlen'],Nat.zero_le _,setRow_heap _ w.heap.size R2 _ _ _ hg2,by rw[hlen'];exact hGn,hGm,?_,?_⟩⟩
     . simp[hR2s,hdl];omega
     . rw[hlen'];have b1:(R2.toList.take ((i+1)*5))=xs.take (i*5)++cs:=by
        rw[hR2];show List.take _ (ROW.toList.take (i*5)++cs++_)=_
        have b2:(ROW.toList.take (i*5)++cs).length=(i+1)*5:=by simp[hRs,hcl];omega
        rw[List.take_append_of_le_length (by omega), <- b2,List.take_length,hRt]
       show List.take _ (R2.toList.take ((i+1)*5)++xs.drop (i*5)++_)=_
       rw[b1,List.take_append_of_le_length (by rw[hxs'];omega), <- hxs',List.take_length]
   . exact((hIn.take hOk i).append hrIn (by simp[hxl,hn])).append (hIn.drop i) (by simp[hcl,hxl,hn];omega)
end Go.Proofs.YtodofogcincleaaGreatDoor
