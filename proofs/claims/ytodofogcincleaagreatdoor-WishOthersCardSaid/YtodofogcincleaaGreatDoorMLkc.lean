/-
  Merged texts.
-/
import Derived.Test.YtodofogcincleaaGreatDoorMCa
import Derived.Test.YtodofogcincleaaGreatDoorMNh
set_option linter.all false
set_option maxRecDepth 100000
namespace NP
open NQ Go
end NP
namespace Go.Proofs.YtodofogcincleaaGreatDoor
open NQ Go NP Go.RowKit
theorem Ou{w:World}{v:Value}{ls:List Bs}(h:Strs w v ls){O:Nat->Prop}(hO:∀B off n c,v= .slice (some ⟨B,off,none⟩) n c-> ¬O B):Rep w O (.slice 1 (ls.map ba)) v:=by
 rcases h with ⟨a,c,rfl,rfl⟩|⟨B,off,cap,rfl,hc,hB,hcells⟩
 . exact .empty _ _ _
 . refine .slice 1 (ls.map ba) B off ls.length cap (λi _=>match ls[i]? with|some x=> .string (mk x)|none=>undef) (by simp) (hO B off _ _ rfl) hB hc (λr hr=>?_) (λi r j d hi hj=>?_) (λi r j d hi hj=>?_)
   . obtain⟨x,_,rfl⟩:=List.mem_map.1 hr;exact⟨rfl,λd hd=>by simp[ba]at hd;subst hd;rfl⟩
   . rw[aM]at hi;cases hx:ls[i]? with
     |none=>rw[hx]at hi;cases hi
     |some x =>
      rw[hx]at hi;cases hi;rcases j with _|j
      . have:=hcells i x hx;rw[Nat.mul_one,Nat.add_zero];exact this
      . simp[ba]at hj
   . rw[aM]at hi;cases hx:ls[i]? with
     |none=>rw[hx]at hi;cases hi
     |some x =>
      rw[hx]at hi;cases hi;rcases j with _|j
      . cases hj;exact .str _ _ (S_mk x)
      . simp[ba]at hj
theorem En{w:World}{v:Value}(h:Strs w v []){O:Nat->Prop}:Rep w O (.slice 1 []) v:=by
 rcases h with ⟨a,c,rfl,_⟩|⟨B,off,cap,rfl,_⟩
 . exact .empty _ _ _
 . exact .empty _ _ _
theorem JA(s:Bs):NQ.Fn cx 213 [.str s] (.tuple [.d (.slice 1 ((eY s).1.map ba)),.d (.int .i64 (eY s).2)]) []:=by
 refine⟨⟨_,Tryz.func213,by kernel_rfl,rfl⟩,λO w vs hO hG hGO hsz hrep=>?_⟩;obtain⟨b,hb,rfl⟩:=eM (hrep 0 _ rfl);rw[sU hsz,hb];refine(Ca b w).mono ?_;rintro e w' ⟨v,rfl,hs,hbel,hfresh⟩;refine⟨_,λ_=> .nilFunc,rfl,hbel,⟨λs b hs=>by simp[find]at hs,λs s' b hs=>by simp[live,find]at hs⟩,?_⟩;have hrep' :Rep w' O (.slice 1 ((eY (S b)).1.map ba)) v:=by
  by_cases hv:aQ (S b)=true
  . refine Ou hs λB off n c e hOB=>?_
    obtain⟨B',off',e',hle⟩:=hfresh hv;rw[e']at e;cases e;have:=hO B hOB;omega
  . have e:eY (S b)=([],11):=by unfold eY;rw[if_neg hv]
    rw[e]at hs ⊢;exact En hs
 refine Jk (.d _ _ (hrep'.mono (aU.less λb hb=>?_))) (.mkInt _ _);rcases hb with hb|⟨s,hl,_⟩
 . exact hb
 . simp[live,find]at hl
end Go.Proofs.YtodofogcincleaaGreatDoor
namespace NP
open NQ Go
end NP
namespace Go.Proofs.YtodofogcincleaaGreatDoor
open NQ Go NP Go.RowKit
theorem jQ{z:aD}(hz:aR z=true):∀s∈z.sets,s.set.data.length<=8/\s.sigs.length<=6:=λs hs =>
 ⟨mD ((bX hz).set s hs),ug ((An.1 hz).form s hs)⟩
end Go.Proofs.YtodofogcincleaaGreatDoor
namespace NP
open NQ Go
theorem vS{α:Type}{l:List α}{k:Nat}{x:α}{p:α->Bool}(h:l[k]? =some x):(l.take (k+1)).filter p=(l.take k).filter p++if p x=true then[x]else[]:=by
 rw[bK h,List.filter_append]
 congr 1
 cases hp:p x <;> simp[hp]
end NP
namespace Go.Proofs.YtodofogcincleaaGreatDoor
open NQ Go NP Go.RowKit
theorem Og(l:List Signed)(p:Signed->Bool)(hn:l.length<=100000)(hf:∀s∈l,NQ.Fn cx 227 [.agg (ak s)] (.d (.bool (p s))) []) :
 NQ.Fn cx 226 [.slice 5 (l.map ak),.fn 227 [] []] (.d (.slice 5 ((l.filter p).map ak))) []:=by
 refine aK aV mixed Tryz.func226 (by kernel_rfl) rfl (ag rfl) ?_;conv=>whnf
 refine ⟨Nat, fun k => ⟨[(1, .d (.fn 227 [] [])), (5, .own 100), (8, .d (.slice 5 (l.map ak))), (9, .d (.int .i64 (l.map ak).length)), (10, .d (.int .i64 k))],
     [(100,.row 68 5 (((l.take k).filter p).map ak))]⟩,λk=>k<=l.length,λk=>l.length-k,
  ⟨0,by omega,(aC.jN 5 100 5 68 5 rfl rfl (by decide)).trans (aC.keep ⟨ae,ae,ae,ae,ae,trivial⟩ ⟨ae,trivial⟩)⟩,λk hk=>?_⟩
 conv=>whnf
 refine af (λh1=>?_) (λh1=>?_) <;> (rw[h1];conv=>whnf)
 . have hlt:k<l.length:=by simp at h1;omega
   obtain⟨s,hs⟩:∃s,l[k]? =some s:=⟨_,ai hlt⟩
   have hfl:((l.take k).filter p).length<=k:=Nat.le_trans (List.length_filter_le _ _) (by rw[List.length_take];omega);refine⟨aw k,ak s,aB hs,?_⟩
   conv=>whnf
   refine⟨_,_,hf s (au hs),?_⟩
   conv=>whnf
   refine af (λh2=>?_) (λh2=>?_) <;> (rw[h2];conv=>whnf)
   . refine⟨by(show(((l.take k).filter p).map ak).length+1<=_;rw[an];omega),by(show((((l.take k).filter p).map ak).length+1)*80<=_;rw[an];omega),?_⟩
     conv=>whnf
     refine⟨k+1,hlt,by(show l.length-(k+1)<l.length-k;omega),aC.keep ⟨ae,ae,ae,ae,⟨ao (by omega),rfl⟩,trivial⟩ ⟨⟨by(show some (Blk.row _ _ (_++_))=some (Blk.row _ _ _);rw[vS hs,if_pos h2,List.map_append];rfl),rfl⟩,trivial⟩⟩
   . refine⟨k+1,hlt,by(show l.length-(k+1)<l.length-k;omega),aC.keep ⟨ae,ae,ae,ae,⟨ao (by omega),rfl⟩,trivial⟩ ⟨⟨by(rw[vS hs,if_neg (by rw[h2];decide),List.append_nil];rfl),rfl⟩,trivial⟩⟩
 . obtain rfl:k=l.length:=by simp at h1;omega
   refine aj rfl ?_;rw[List.take_length];rfl
end Go.Proofs.YtodofogcincleaaGreatDoor
namespace NP
open NQ Go
def shown(n:Bs)(s:cu)(d:Datum):Bs:=if (decide ((rp n d.text).length>(rp n s.name).length)||rp n s.name==[46])=true then rp n d.text else rp n s.name
end NP
namespace Go.Proofs.YtodofogcincleaaGreatDoor
open NQ Go NP Go.RowKit
end Go.Proofs.YtodofogcincleaaGreatDoor
namespace NP
open NQ Go
end NP
namespace Go.Proofs.YtodofogcincleaaGreatDoor
open NQ Go NP Go.RowKit
theorem Ka(s:Signed)(h1:s.set.data.length<=100000)(h2:s.sigs.length<=100000):NQ.Fn cx 230 [.agg (ak s)] (.agg ((ak s).map .d)) []:=by
 refine aK aV mixed Tryz.func230 (by kernel_rfl) rfl (ag rfl) ?_;conv=>whnf
 (refine⟨_,_,mo _ (by simpa using h1),?_⟩;conv=>whnf)
 (refine⟨_,_,tz _ (by simpa using h2),?_⟩;conv=>whnf)
 exact aj rfl rfl
end Go.Proofs.YtodofogcincleaaGreatDoor
namespace NP
open NQ Go
theorem yt:∀(L:List (Signed×Bs)) (acc:List Bs),(nam acc L).length<=acc.length+L.length
 |[],acc=>by simp[nam]
 |(s,b)::t,acc=>by
  unfold nam;have:=yt t (if yq s.set.name b=true then acc else if yr acc s.set.name=true then acc++[s.set.name]else acc);refine Nat.le_trans this ?_
  repeat' split
  all_goals (try simp)
  all_goals (try omega)
end NP
namespace Go.Proofs.YtodofogcincleaaGreatDoor
open NQ Go NP Go.RowKit
end Go.Proofs.YtodofogcincleaaGreatDoor
namespace NP
open NQ Go
def Hc(t:Int):Int:=IntKind.i64.wrap (1*2 ^ (min t.toNat 64))
def LY:Datum:=⟨[],0,0⟩
def nM:cu:=⟨[],0,0,[]⟩
def named(n:Bs)(s:Signed):Bool:=s.set.name==n
def iV(l:List Signed)(n:Bs):Int:=(l.filter (named n)).foldl (λb s=>bOr .i64 b (Hc s.set.type)) 0
def lz(l:List Signed):Int:=l.foldl (λb s=>if (s.set.type==4)=true then((s.set.data[0]?).getD LY).m else b) 0
def BK(z:aD)(n:Bs):Int:=if (!(n==z.apex)&&Ct .i64 (bOr .i64 (iV z.sets n) 256) 4 != 0)=true then rj .i64 (bOr .i64 (iV z.sets n) 256) 2 else bOr .i64 (iV z.sets n) 256
def BP(z:aD)(ns:List Bs)(i:Nat):cu:=⟨(ns[i]?).getD [],8,lz z.sets,[⟨(ns[(i+1) % ns.length]?).getD [],BK z ((ns[i]?).getD []),0⟩]⟩
def ig(z:aD)(ns:List Bs):List cu:=(List.range ns.length).map (BP z ns)
theorem Lb{z:aD}{ns:List Bs}{i:Nat}(h:i<ns.length):(ig z ns)[i]? =some (BP z ns i):=by
 unfold ig;rw[aM,List.getElem?_range h];rfl
theorem lW(z:aD)(ns:List Bs):(ig z ns).length=ns.length:=by unfold ig;simp
theorem Hd{l:List Signed}{k:Nat}{s:Signed}(hk:l[k]? =some s)(n:Bs):iV (l.take (k+1)) n=if named n s=true then bOr .i64 (iV (l.take k) n) (Hc s.set.type)else iV (l.take k) n:=by
 unfold iV;rw[bK hk,List.filter_append];cases hn:named n s with
 |true=>simp[hn]
 |false=>simp[hn]
theorem Iq{l:List Signed}{k:Nat}{s:Signed}(hk:l[k]? =some s):lz (l.take (k+1))=if (s.set.type==4)=true then((s.set.data[0]?).getD LY).m else lz (l.take k):=by
 unfold lz;rw[bK hk,List.foldl_append];rfl
def xu(m:List (Bs×D))(l:List Signed):Prop:= ∀n,bg n m=if l.any (named n)=true then some (.int .i64 (iV l n))else none
theorem xE{l:List Signed}{n:Bs}(h:l.any (named n)=false):iV l n=0:=by
 unfold iV;have:l.filter (named n)=[]:=by
  rw[List.filter_eq_nil_iff];intro x hx hp;have:=List.any_eq_false.1 h x hx;exact this hp
 rw[this];rfl
theorem xu.put{m:List (Bs×D)}{l:List Signed}{k:Nat}{s:Signed}(h:xu m (l.take k))(hk:l[k]? =some s):xu (bT s.set.name (.int .i64 (bOr .i64 (iV (l.take k) s.set.name) (Hc s.set.type))) m) (l.take (k+1)):=by
 intro n;rw[oG,Hd hk,bK hk,List.any_append];by_cases e:n=s.set.name
 . subst e;have:named s.set.name s=true:=by simp[named]
   simp[this]
 . have:named n s=false:=by simp[named];exact λh=>e h.symm
   rw[if_neg e,h n];simp[this]
end NP
namespace Go.Proofs.YtodofogcincleaaGreatDoor
open NQ Go NP Go.RowKit
theorem Qv{c:Cx}{t:TypeId}(a b:Int)(hb:b≠0):Hb c .rem t (.d (.int .i64 a)) (.d (.int .i64 b))=some (.d (.int .i64 (a.tmod b))):=by
 show(match kZ .rem .i64 a b with|some r=>some (AV.d r)|none=>none)=_
 unfold kZ;rw[decide_eq_false hb]
noncomputable def cxS:Cx:={cx with bld:=[85]}
theorem tyS:aZ cxS:=aV
theorem Rp:cxS.P.follows .mixedOrders=true:=mixed
set_option maxHeartbeats 2000000 in
theorem Fo(z:aD)(ns:List Bs)(hz:z.sets.length<=100000)(hn:ns.length<=100000)(ht:∀s∈z.sets,1<=s.set.type/\ ∃d,s.set.data[0]? =some d) :
 NQ.Fn cx 229 [.agg (aH z),.slice 1 (ns.map ba)] (.d (.slice 4 ((ig z ns).map bN))) []:=by
 show NQ.Fn cxS _ _ _ _
 refine eO (λ_=>[]) tyS Rp Tryz.func229 (by kernel_rfl) rfl (ag rfl) ?_
 conv=>whnf
 refine⟨Nat×List (Bs×D)×Int,λx=>⟨[(1,.d (.slice 1 (ns.map ba))),(2,.ptr 2 0),(5,.omap 16),(6,.d (.int .i64 x.2.2)),(18,.d (.slice 5 (z.sets.map ak))),(19,.d (.int .i64 ((z.sets.map ak).length:Int))),(20,.d (.int .i64 x.1))],[(2,.box ((aH z).map .d)),(16,.smap x.2.1)]⟩,
  λx=>x.1<=z.sets.length/\xu x.2.1 (z.sets.take x.1)/\x.2.2=lz (z.sets.take x.1),λx=>z.sets.length-x.1,
  ⟨(0,[],0),⟨by simp,λn=>rfl,rfl⟩,aC.keep ⟨ae,ae,ae,ae,ae,ae,ae,trivial⟩ ⟨ae,ae,trivial⟩⟩,?_⟩
 rintro⟨k,m,lf⟩ ⟨hk,hm,hlf⟩;simp only at hk hm hlf
 conv=>whnf
 refine af (λh1=>?_) (λh1=>?_) <;> (rw[h1];conv=>whnf)
 . have hlt:k<z.sets.length:=by simp at h1;omega
   obtain⟨s,hs⟩:∃s,z.sets[k]? =some s:=⟨_,ai hlt⟩
   have hm' :=hm.put hs;have hl' :=Iq hs;have hfind:=hm s.set.name;obtain⟨ht1,d,hd⟩:=ht s (au hs);refine⟨aw k,ak s,aB hs,?_⟩;obtain⟨⟨nm,ty,life,data⟩,sigs⟩:=s;obtain⟨t,rfl⟩:∃t:Nat,ty=t:=⟨ty.toNat,by simp only at ht1;omega⟩
   simp only at hm' hl' hfind ht1 hd
   conv=>whnf
   (refine⟨(by kernel_rfl:bE _ _=true),?_⟩;conv=>whnf)
   have step:∀b:Int,(iV (z.sets.take k) nm=b)->xu (bT nm (.int .i64 (bOr .i64 b (Hc t))) m) (z.sets.take (k+1)):=λb hb=>by rw[<- hb];exact hm'
   have four:((t:Int)==4)=true->lz (z.sets.take (k+1))=d.m:=λh=>by rw[hl',if_pos h,hd];rfl
   have nfour:((t:Int)==4)=false->lz (z.sets.take (k+1))=lf:=λh=>by rw[hl',if_neg (by rw[h];decide),hlf]
   cases ha:(z.sets.take k).any (named nm)with
   |true =>
    rw[ha,if_pos rfl]at hfind;rw[show bg (⟨⟨nm,(t:Int),life,data⟩,sigs⟩:Signed).set.name (k,m,lf).snd.fst=_ from hfind]
    conv=>whnf
    refine af (λh2=>?_) (λh2=>?_) <;> (rw[h2];conv=>whnf)
    . refine⟨by decide,aG d,aB (k:=0) hd,?_⟩
      conv=>whnf
      exact⟨(k+1,_,d.m),⟨hlt,step _ rfl,(four h2).symm⟩,by(show z.sets.length-(k+1)<z.sets.length-k;omega),aC.keep ⟨ae,ae,ae,ae,ae,ae,⟨ao (by omega),rfl⟩,trivial⟩ ⟨ae,ae,trivial⟩⟩
    . exact⟨(k+1,_,lf),⟨hlt,step _ rfl,(nfour h2).symm⟩,by(show z.sets.length-(k+1)<z.sets.length-k;omega),aC.keep ⟨ae,ae,ae,ae,ae,ae,⟨ao (by omega),rfl⟩,trivial⟩ ⟨ae,ae,trivial⟩⟩
   |false =>
    have hb0:=xE ha;rw[ha,if_neg (by decide)]at hfind;rw[show bg (⟨⟨nm,(t:Int),life,data⟩,sigs⟩:Signed).set.name (k,m,lf).snd.fst=_ from hfind]
    conv=>whnf
    refine af (λh2=>?_) (λh2=>?_) <;> (rw[h2];conv=>whnf)
    . refine⟨by decide,aG d,aB (k:=0) hd,?_⟩
      conv=>whnf
      exact⟨(k+1,_,d.m),⟨hlt,step 0 hb0,(four h2).symm⟩,by(show z.sets.length-(k+1)<z.sets.length-k;omega),aC.keep ⟨ae,ae,ae,ae,ae,ae,⟨ao (by omega),rfl⟩,trivial⟩ ⟨ae,ae,trivial⟩⟩
    . exact⟨(k+1,_,lf),⟨hlt,step 0 hb0,(nfour h2).symm⟩,by(show z.sets.length-(k+1)<z.sets.length-k;omega),aC.keep ⟨ae,ae,ae,ae,ae,ae,⟨ao (by omega),rfl⟩,trivial⟩ ⟨ae,ae,trivial⟩⟩
 . obtain rfl:k=z.sets.length:=by simp at h1;omega
   rw[List.take_length]at hm hlf;subst hlf;have hnl:(ns.map ba).length=ns.length:=an _;refine⟨by omega,.inl rfl,by omega,by(simp only[an];omega),by(simp only[an];omega),?_⟩
   conv=>whnf
   refine ⟨Nat, fun k => ⟨[(1, .d (.slice 1 (ns.map ba))), (2, .ptr 2 0), (5, .omap 16), (6, .d (.int .i64 (lz z.sets))), (9, .own 47), (48, .d (.slice 1 (ns.map ba))), (49, .d (.int .i64 ((ns.map ba).length : Int))), (50, .d (.int .i64 k))],
       [(2,.box ((aH z).map .d)),(16,.smap m),(47,.row 26 4 (((ig z ns).take k++List.replicate (ns.length-k) nM).map bN) true)]⟩,
    λk=>k<=ns.length,λk=>ns.length-k,⟨0,by omega,aC.keep ⟨ae,ae,ae,ae,ae,ae,ae,ae,trivial⟩ ⟨ae,ae,⟨by(show some (Blk.row _ _ (List.replicate ((ns.map ba).length:Int).toNat _) true)=some (Blk.row _ _ _ true);simp[bN,nM];done),rfl⟩,trivial⟩⟩,λk hk=>?_⟩
   conv=>whnf
   refine af (λh1=>?_) (λh1=>?_) <;> (rw[h1];conv=>whnf)
   . have hlt:k<ns.length:=by simp at h1;omega
     obtain⟨n,hnk⟩:∃n,ns[k]? =some n:=⟨_,ai hlt⟩
     refine⟨aw k,ba n,aB hnk,?_⟩
     conv=>whnf
     have hns:BP z ns k=⟨n,8,lz z.sets,[⟨(ns[(k+1) % ns.length]?).getD [],BK z n,0⟩]⟩:=by unfold BP;rw[hnk];rfl
     have hfind:=hm n;have ew:IntKind.i64.wrap ((k:Int)+1)=((k+1:Nat):Int):=by rw[wrap_i64 (by omega) (by omega)];omega
     have hmod:(k+1) % ns.length<ns.length:=Nat.mod_lt _ (by omega);obtain⟨n2,hn2⟩:∃n2,ns[(k+1) % ns.length]? =some n2:=⟨_,ai hmod⟩
     have e0:(((ns.map ba).length:Nat):Int)≠0:=by rw[hnl];omega
     have er:=Qv (c:=cxS) (t:=3) (IntKind.i64.wrap ((k:Int)+1)) (((ns.map ba).length:Nat):Int) e0;have e1:(IntKind.i64.wrap ((k:Int)+1)).tmod (((ns.map ba).length:Nat):Int)=(((k+1) % ns.length:Nat):Int):=by
      rw[ew,hnl,Int.tmod_eq_emod_of_nonneg (by omega)];rfl
     rw[e1]at er;have hlen:(((ig z ns).take k++List.replicate (ns.length-k) nM).map bN).length=ns.length:=by
      rw[an,List.length_append,List.length_take,List.length_replicate,lW];omega
     have hrk:(((ig z ns).take k++List.replicate (ns.length-k) nM).map bN)[k]? =some (bN nM):=by
      rw[aM,bW (by rw[List.length_take,lW];omega),List.getElem?_replicate,if_pos (by rw[List.length_take,lW];omega)];rfl
     have hset:=GM (Lb (z:=z) hlt) (lW z ns) (z:=nM);rw[hns,hn2,Option.getD_some]at hset;have fin:∀st',aC cxS st' ⟨[(1,.d (.slice 1 (ns.map ba))),(2,.ptr 2 0),(5,.omap 16),(6,.d (.int .i64 (lz z.sets))),(9,.own 47),(48,.d (.slice 1 (ns.map ba))),(49,.d (.int .i64 ((ns.map ba).length:Int))),(50,.d (.int .i64 (k+1:Nat)))],
      [(2,.box ((aH z).map .d)),(16,.smap m),(47,.row 26 4 ((((ig z ns).take k++List.replicate (ns.length-k) nM).map bN).set k (bN ⟨n,8,lz z.sets,[⟨n2,BK z n,0⟩]⟩)) true)]⟩ ->
       aC cxS st' ⟨[(1,.d (.slice 1 (ns.map ba))),(2,.ptr 2 0),(5,.omap 16),(6,.d (.int .i64 (lz z.sets))),(9,.own 47),(48,.d (.slice 1 (ns.map ba))),(49,.d (.int .i64 ((ns.map ba).length:Int))),(50,.d (.int .i64 (k+1:Nat)))],
      [(2,.box ((aH z).map .d)),(16,.smap m),(47,.row 26 4 (((ig z ns).take (k+1)++List.replicate (ns.length-(k+1)) nM).map bN) true)]⟩:=λst' h=>by
      rw[<- List.map_set,hset]at h;exact h
     have goal:∀b:Int,iV z.sets n=b->(∀x:Int,(x=if (!(n==z.apex)&&Ct .i64 (bOr .i64 b 256) 4 != 0)=true then rj .i64 (bOr .i64 b 256) 2 else bOr .i64 b 256)->x=BK z n):=λb hb x hx=>by
      subst hb;rw[hx];rfl
     cases ha:z.sets.any (named n)with
     |true =>
      rw[ha,if_pos rfl]at hfind;have g:=goal _ rfl;rw[hfind]
      conv=>whnf
      repeat' (first
       |(refine af (λh=>?_) (λh=>?_) <;> (rw[h];conv=>whnf))
       | (split
          . rename_i hb;cases hb.symm.trans er
            conv=>whnf
            refine⟨aw _,ba n2,aB hn2,?_⟩
            conv=>whnf
            refine⟨aw k,by(show k<_;rw[hlen];exact hlt),?_⟩
            conv=>whnf
            refine⟨_,hrk,?_⟩
            conv=>whnf
            refine⟨k+1,hlt,by(show ns.length-(k+1)<ns.length-k;omega),fin _ (aC.keep ⟨ae,ae,ae,ae,ae,ae,ae,⟨ao (by omega),rfl⟩,trivial⟩ ⟨ae,ae,⟨?_,rfl⟩,trivial⟩)⟩
            first
             |(rw[<- g (rj .i64 (bOr .i64 (iV z.sets n) 256) 2) (by simp only[*, if_true,if_false,aI])];rfl)
             |(rw[<- g (bOr .i64 (iV z.sets n) 256) (by simp only[*, if_true,if_false,aI])];rfl)
          . rename_i hb;exact absurd (hb.symm.trans er) (by simp))
       |fail)
     |false =>
      rw[ha,if_neg (by decide)]at hfind;have g:=goal 0 (xE ha);have z0:(Ct .i64 (bOr .i64 0 256) 4 != 0)=false:=by decide
      rw[hfind]
      conv=>whnf
      repeat' (first
       |(refine af (λh=>?_) (λh=>?_) <;> (rw[h];conv=>whnf))
       | (split
          . rename_i hb;cases hb.symm.trans er
            conv=>whnf
            refine⟨aw _,ba n2,aB hn2,?_⟩
            conv=>whnf
            refine⟨aw k,by(show k<_;rw[hlen];exact hlt),?_⟩
            conv=>whnf
            refine⟨_,hrk,?_⟩
            conv=>whnf
            refine⟨k+1,hlt,by(show ns.length-(k+1)<ns.length-k;omega),fin _ (aC.keep ⟨ae,ae,ae,ae,ae,ae,ae,⟨ao (by omega),rfl⟩,trivial⟩ ⟨ae,ae,⟨?_,rfl⟩,trivial⟩)⟩;rw[<- g (bOr .i64 0 256) (by rw[z0,kD];rfl)];rfl
          . rename_i hb;exact absurd (hb.symm.trans er) (by simp))
       |fail)
   . obtain rfl:k=ns.length:=by simp at h1;omega
     refine aj rfl ?_;rw[show(ig z ns).take ns.length=ig z ns from List.take_of_length_le (by rw[lW];omega),Nat.sub_self,List.replicate_zero,List.append_nil];rfl
end Go.Proofs.YtodofogcincleaaGreatDoor
namespace NP
open NQ Go
def lX(s:Signed):Bool:=s.set.type != 8
def ee(z:aD):aD:=⟨z.apex,z.sets.filter lX⟩
def sI(s:Signed):List Signed->Bool
 |x::_=>x.set.name==s.set.name
 |[]=>false
def lg(s:Signed):List cu->Bool
 |y::_=>y.name==s.set.name
 |[]=>false
def gN:List Signed->List cu->List Signed->List Signed
 |[],_,acc=>acc
 |s::t,nx,acc=>if sI s t=true then gN t nx (acc++[s])else if lg s nx=true then gN t nx.tail (acc++[s]++(match nx with|y::_=>[⟨y,[]⟩]|[]=>[]))else gN t nx (acc++[s])
theorem Ju(s:Signed)(t:List Signed)(nx:List cu)(acc:List Signed):gN (s::t) nx acc=if sI s t=true then gN t nx (acc++[s])else if lg s nx=true then gN t nx.tail (acc++[s]++(match nx with|y::_=>[⟨y,[]⟩]|[]=>[]))else gN t nx (acc++[s]):=by
 conv=>lhs;rw[gN.eq_def]
theorem LR(nx:List cu)(acc:List Signed):gN [] nx acc=acc:=by rw[gN.eq_def]
def fk(z:aD):aD×Int :=
 if (!aR z)=true then(⟨[],[]⟩,1)else if ((jB (ee z)).2 != 0)=true then(⟨[],[]⟩,(jB (ee z)).2)
 else if decide ((((ee z).sets.length:Int)+((jB (ee z)).1.length:Int))>20000)=true then(⟨[],[]⟩,2)
 else(⟨z.apex,gN (ee z).sets (ig (ee z) (jB (ee z)).1) []⟩,0)
def fzC:Nat->List Nat
 |11=>[66666]
 |12=>[55555]
 |15=>[66666]
 |18=>[66666]
 |_=>[]
end NP
namespace Go.Proofs.YtodofogcincleaaGreatDoor
open NQ Go NP Go.RowKit
noncomputable def cxC:Cx:={cx with bld:=[64,106]}
theorem tyC:aZ cxC:=aV
theorem Ro:cxC.P.follows .mixedOrders=true:=mixed
theorem JZ(s:Signed):NQ.Fn cx 227 [.agg (ak s)] (.d (.bool (lX s))) []:=by
 refine aK aV mixed Tryz.func227 (by kernel_rfl) rfl (ag rfl) ?_;conv=>whnf
 exact aj rfl rfl
def stC(ap:Bs)(y:aD)(nx:List cu):St:=⟨[(2,.ptr 2 0),(4,.ptr 4 0),(7,.d (.slice 4 (nx.map bN))),(8,.ptr 8 0)],[(2,.box [.d (.str []),.nil 5]),(4,.box ((aH y).map .d)),(8,.box [.d (.str ap),.own 50]),(50,.row 68 5 [])]⟩
def stL(ap:Bs)(y:aD)(k:Nat)(acc:List Signed)(nx:List cu):St:=⟨[(2,.ptr 2 0),(4,.ptr 4 0),(7,.d (.slice 4 (nx.map bN))),(8,.ptr 8 0),(53,.d (.slice 5 (y.sets.map ak))),(54,.d (.int .i64 ((y.sets.map ak).length:Int))),(55,.d (.int .i64 k))],[(2,.box [.d (.str []),.nil 5]),(4,.box ((aH y).map .d)),(8,.box [.d (.str ap),.own 50]),(50,.row 68 5 (acc.map ak))]⟩
theorem Hk(ap:Bs)(y:aD)(nx0:List cu)(hy:y.sets.length<=20000)(hn:nx0.length<=20000)(hs:∀s∈y.sets,s.set.data.length<=100000/\s.sigs.length<=100000)(st:St)(hw:aC cxC st (stC ap y nx0)) :
 vc cxC Tryz.f187.ntmps fzC (BY 9 ((Tryz.f187.body).getD .skip)) (fnQ cxC Tryz.f187.results.toList (.tuple [.agg ((aH ⟨ap,gN y.sets nx0 []⟩).map .d),.d (.int .i64 0)]) []) st:=by
 conv=>whnf
 refine⟨stC ap y nx0,hw,?_⟩
 conv=>whnf
 refine⟨Nat×List Signed×List cu,λx=>stL ap y x.1 x.2.1 x.2.2,λx=>x.1<=y.sets.length/\x.2.1.length<=2*x.1/\x.2.2.length<=20000/\gN (y.sets.drop x.1) x.2.2 x.2.1=gN y.sets nx0 [],λx=>y.sets.length-x.1,
  ⟨(0,[],nx0),⟨by simp,by simp,hn,rfl⟩,aC.keep ⟨ae,ae,ae,ae,ae,ae,ae,trivial⟩ ⟨ae,ae,ae,ae,trivial⟩⟩,?_⟩
 rintro⟨k,acc,nx⟩ ⟨hk,hl,hnx,hc⟩;simp only at hk hl hnx hc
 conv=>whnf
 refine af (λh1=>?_) (λh1=>?_) <;> (rw[h1];conv=>whnf)
 . have hlt:k<y.sets.length:=by simp at h1;omega
   obtain⟨s,hsk⟩:∃s,y.sets[k]? =some s:=⟨_,ai hlt⟩
   have hdr:y.sets.drop k=s::y.sets.drop (k+1):=by
    rw[List.drop_eq_getElem_cons hlt,(aq.1 hsk).2]
   rw[hdr,Ju]at hc;refine⟨aw k,ak s,aB hsk,?_⟩
   conv=>whnf
   (refine⟨(by kernel_rfl:bA _=true),?_⟩;conv=>whnf)
   (refine⟨_,_,Ka s (hs s (au hsk)).1 (hs s (au hsk)).2,?_⟩;conv=>whnf)
   repeat' (first
    |(refine⟨by kernel_rfl,?_⟩;conv=>whnf)
    |(refine⟨by(show(acc.map ak).length+1<=_;rw[an];omega),by(show((acc.map ak).length+1)*80<=_;rw[an];omega),?_⟩;conv=>whnf)
    |fail)
   have ew:IntKind.i64.wrap ((k:Int)+1)=((k+1:Nat):Int):=by rw[wrap_i64 (by omega) (by omega)];omega
   have hlm:((y.sets.map ak).length:Int)=(y.sets.length:Int):=by rw[an]
   rw[show IntKind.i64.wrap (((k,acc,nx):Nat×List Signed×List cu).fst+1:Int)=_ from ew,hlm];have next:∀(acc' :List Signed) (nx' :List cu),gN (y.sets.drop (k+1)) nx' acc' =gN y.sets nx0 []->acc'.length<=2*(k+1)->nx'.length<=20000-> ∀st',aC cxC st' (stL ap y (k+1) acc' nx') ->
    ∃x:Nat×List Signed×List cu,(x.1<=y.sets.length/\x.2.1.length<=2*x.1/\x.2.2.length<=20000/\gN (y.sets.drop x.1) x.2.2 x.2.1=gN y.sets nx0 [])/\y.sets.length-x.1<y.sets.length-k/\aC cxC st' (stL ap y x.1 x.2.1 x.2.2):=λacc' nx' e1 e2 e3 st' hw=>⟨(k+1,acc',nx'),⟨hlt,e2,e3,e1⟩,by(show y.sets.length-(k+1)<_;omega),hw⟩
   have hl1:(acc++[s]).length<=2*(k+1):=by rw[List.length_append,List.length_singleton];omega
   have e1:(acc++[s]).map ak=acc.map ak++[ak s]:=by rw[List.map_append];rfl
   cases hnx' :y.sets[k+1]? with
   |none =>
    have hge:y.sets.length<=k+1:=by rwa [List.getElem?_eq_none_iff]at hnx'
    have hd0:y.sets.drop (k+1)=[]:=List.drop_eq_nil_of_le hge;have h2:decide (((k+1:Nat):Int)<(y.sets.length:Int))=false:=by rw[decide_eq_false];omega
    rw[h2];rw[if_neg (by rw[hd0];simp[sI])]at hc
    conv=>whnf
    (refine⟨(by kernel_rfl:bE _ _=true),?_⟩;conv=>whnf)
    rcases nx with _|⟨r,nx⟩
    . rw[if_neg (by simp[lg])]at hc
      conv=>whnf
      exact next _ _ hc hl1 hnx _ (aC.keep ⟨ae,ae,ae,ae,ae,ae,⟨ao (by omega),rfl⟩,trivial⟩ ⟨ae,ae,ae,⟨by(show some (Blk.row _ _ (_++_))=some (Blk.row _ _ _);rw[e1];rfl),rfl⟩,trivial⟩)
    . have h3:decide (((((r::nx):List cu).map bN).length:Int)>0)=true:=by rw[decide_eq_true];simp
      rw[show decide (((((k,acc,r::nx):Nat×List Signed×List cu).2.2.map bN).length:Int)>0)=true from h3]
      conv=>whnf
      refine⟨by decide,bN r,rfl,?_⟩
      conv=>whnf
      refine af (λh4=>?_) (λh4=>?_) <;> (rw[h4];conv=>whnf)
      . rw[if_pos (show lg s (r::nx)=true from h4)]at hc
        (refine⟨(by kernel_rfl:bA _=true),?_⟩;conv=>whnf)
        refine⟨by decide,bN r,rfl,?_⟩
        conv=>whnf
        repeat' (first
         |(refine⟨by kernel_rfl,?_⟩;conv=>whnf)
         |(refine⟨by(show(acc.map ak++[ak s]).length+1<=_;rw[List.length_append,an,List.length_singleton];omega),by(show((acc.map ak++[ak s]).length+1)*80<=_;rw[List.length_append,an,List.length_singleton];omega),?_⟩;conv=>whnf)
         |(refine⟨by decide,by(show((1:Nat):Int)<=(((r::nx).map bN).length:Int);rw[an,List.length_cons];omega),Int.le_refl _,?_⟩;conv=>whnf)
         |fail)
        have e3:(acc++[s]++[(⟨r,[]⟩:Signed)]).map ak=(acc.map ak++[ak s])++[ak ⟨r,[]⟩]:=by rw[List.map_append,e1];rfl
        have e4:(((r::nx).map bN).drop 1).take (((r::nx).map bN).length-1)=nx.map bN:=List.take_of_length_le (by simp);exact next (acc++[s]++[(⟨r,[]⟩:Signed)]) nx hc (by rw[List.length_append,List.length_append,List.length_singleton,List.length_singleton];omega) (by simp at hnx;omega) _ (aC.keep ⟨ae,ae,⟨by(rw[<- e4];rfl),rfl⟩,ae,ae,ae,⟨ao (by omega),rfl⟩,trivial⟩ ⟨ae,ae,ae,⟨by(show some (Blk.row _ _ (_++_))=some (Blk.row _ _ _);rw[e3];rfl),rfl⟩,trivial⟩)
      . rw[if_neg (show ¬lg s (r::nx)=true by rw[show lg s (r::nx)=false from h4];decide)]at hc;exact next _ _ hc hl1 hnx _ (aC.keep ⟨ae,ae,ae,ae,ae,ae,⟨ao (by omega),rfl⟩,trivial⟩ ⟨ae,ae,ae,⟨by(show some (Blk.row _ _ (_++_))=some (Blk.row _ _ _);rw[e1];rfl),rfl⟩,trivial⟩)
   |some x =>
    have hlt2:k+1<y.sets.length:=(aq.1 hnx').1;have hd1:y.sets.drop (k+1)=x::y.sets.drop (k+2):=by
     rw[List.drop_eq_getElem_cons hlt2,(aq.1 hnx').2]
    have h2:decide (((k+1:Nat):Int)<(y.sets.length:Int))=true:=by rw[decide_eq_true];omega
    have hsn:sI s (y.sets.drop (k+1))=(x.set.name==s.set.name):=by rw[hd1];rfl
    rw[hsn]at hc;rw[h2]
    conv=>whnf
    rw[show IntKind.i64.wrap (((k,acc,nx):Nat×List Signed×List cu).fst+1:Int)=_ from ew];refine⟨aw _,ak x,aB hnx',?_⟩
    conv=>whnf
    refine af (λh5=>?_) (λh5=>?_) <;> (rw[h5];conv=>whnf)
    . rw[if_pos h5]at hc;exact next _ _ hc hl1 hnx _ (aC.keep ⟨ae,ae,ae,ae,ae,ae,⟨ao (by omega),rfl⟩,trivial⟩ ⟨ae,ae,ae,⟨by(show some (Blk.row _ _ (_++_))=some (Blk.row _ _ _);rw[e1];rfl),rfl⟩,trivial⟩)
    rw[if_neg (by rw[h5];decide)]at hc
    (refine⟨(by kernel_rfl:bE _ _=true),?_⟩;conv=>whnf)
    rcases nx with _|⟨r,nx⟩
    . rw[if_neg (by simp[lg])]at hc
      conv=>whnf
      exact next _ _ hc hl1 hnx _ (aC.keep ⟨ae,ae,ae,ae,ae,ae,⟨ao (by omega),rfl⟩,trivial⟩ ⟨ae,ae,ae,⟨by(show some (Blk.row _ _ (_++_))=some (Blk.row _ _ _);rw[e1];rfl),rfl⟩,trivial⟩)
    . have h3:decide (((((r::nx):List cu).map bN).length:Int)>0)=true:=by rw[decide_eq_true];simp
      rw[show decide (((((k,acc,r::nx):Nat×List Signed×List cu).2.2.map bN).length:Int)>0)=true from h3]
      conv=>whnf
      refine⟨by decide,bN r,rfl,?_⟩
      conv=>whnf
      refine af (λh4=>?_) (λh4=>?_) <;> (rw[h4];conv=>whnf)
      . rw[if_pos (show lg s (r::nx)=true from h4)]at hc
        (refine⟨(by kernel_rfl:bA _=true),?_⟩;conv=>whnf)
        refine⟨by decide,bN r,rfl,?_⟩
        conv=>whnf
        repeat' (first
         |(refine⟨by kernel_rfl,?_⟩;conv=>whnf)
         |(refine⟨by(show(acc.map ak++[ak s]).length+1<=_;rw[List.length_append,an,List.length_singleton];omega),by(show((acc.map ak++[ak s]).length+1)*80<=_;rw[List.length_append,an,List.length_singleton];omega),?_⟩;conv=>whnf)
         |(refine⟨by decide,by(show((1:Nat):Int)<=(((r::nx).map bN).length:Int);rw[an,List.length_cons];omega),Int.le_refl _,?_⟩;conv=>whnf)
         |fail)
        have e3:(acc++[s]++[(⟨r,[]⟩:Signed)]).map ak=(acc.map ak++[ak s])++[ak ⟨r,[]⟩]:=by rw[List.map_append,e1];rfl
        have e4:(((r::nx).map bN).drop 1).take (((r::nx).map bN).length-1)=nx.map bN:=List.take_of_length_le (by simp);exact next (acc++[s]++[(⟨r,[]⟩:Signed)]) nx hc (by rw[List.length_append,List.length_append,List.length_singleton,List.length_singleton];omega) (by simp at hnx;omega) _ (aC.keep ⟨ae,ae,⟨by(rw[<- e4];rfl),rfl⟩,ae,ae,ae,⟨ao (by omega),rfl⟩,trivial⟩ ⟨ae,ae,ae,⟨by(show some (Blk.row _ _ (_++_))=some (Blk.row _ _ _);rw[e3];rfl),rfl⟩,trivial⟩)
      . rw[if_neg (show ¬lg s (r::nx)=true by rw[show lg s (r::nx)=false from h4];decide)]at hc;exact next _ _ hc hl1 hnx _ (aC.keep ⟨ae,ae,ae,ae,ae,ae,⟨ao (by omega),rfl⟩,trivial⟩ ⟨ae,ae,ae,⟨by(show some (Blk.row _ _ (_++_))=some (Blk.row _ _ _);rw[e1];rfl),rfl⟩,trivial⟩)
 . obtain rfl:k=y.sets.length:=by simp at h1;omega
   rw[List.drop_eq_nil_of_le (by omega),LR]at hc;refine aj rfl ?_;rw[<- hc];rfl
theorem CA(z:aD):NQ.Fn cx 187 [.agg (aH z)] (.tuple [.agg ((aH (fk z).1).map .d),.d (.int .i64 (fk z).2)]) []:=by
 show NQ.Fn cxC _ _ _ _
 refine eO fzC tyC Ro Tryz.func187 (by kernel_rfl) rfl (ag rfl) ?_
 conv=>whnf
 (refine⟨_,_,iw z,?_⟩;conv=>whnf)
 refine af (λh1=>?_) (λh1=>?_) <;> (rw[h1];conv=>whnf)
 . refine aj rfl ?_;rw[fk,if_pos h1];rfl
 have hv:aR z=true:=by simpa using h1
 have ho:=bX hv;have hz:=ho.few;have hR1:fk z=fk z:=rfl
 conv at hR1=>rhs;rw[fk,if_neg (by rw[h1];decide)]
 have fS:=Og z.sets lX (by omega) (λs _=>JZ s)
 (refine⟨_,_,fS,?_⟩;conv=>whnf)
 have hbl:(ee z).sets.length<=z.sets.length:=List.length_filter_le _ _;have fN:=NK (ee z);obtain⟨ns,e,hns⟩:∃ns e,jB (ee z)=(ns,e):=⟨_,_,rfl⟩
 rw[hns]at fN hR1
 (refine⟨_,_,fN,?_⟩;conv=>whnf)
 refine af (λh2=>?_) (λh2=>?_) <;> (rw[h2];conv=>whnf)
 . refine aj rfl ?_;rw[hR1,if_pos h2];rfl
 have hvb:aR (ee z)=true:=by
  cases hvb:aR (ee z)with
  |true=>rfl
  |false =>
   exfalso
   rw[jB,if_pos (by rw[hvb];rfl)]at hns;cases hns;cases h2
 have hob:=bX hvb;have hnl:ns.length<=(ee z).sets.length:=by
  rw[jB,if_neg (by rw[hvb];decide)]at hns;cases hns;have h:=yt ((ee z).sets.zip (cU (ee z))) [];have h2:(rI (ee z)).length<=(((ee z).sets.zip (cU (ee z)))).length:=by simpa [rI] using h
  rw[List.length_zip]at h2;omega
 have hty:∀s∈(ee z).sets,1<=s.set.type/\ ∃d,s.set.data[0]? =some d:=λs hs=>by
  have hb:=hob.set s hs;refine⟨(uB hb).1,?_⟩;unfold dC at hb;simp only[aF,Bool.not_eq_true',Bool.or_eq_false_iff,Bool.not_eq_false']at hb;have:=hb.1.1.2;simp[within]at this;exact⟨_,ai (by omega)⟩
 have ew:IntKind.i64.wrap ((((z.sets.filter lX).map ak).length:Int)+((ns.map ba).length:Int))=((ee z).sets.length:Int)+(ns.length:Int):=by
  rw[an,an,wrap_i64 (by omega) (by have:(z.sets.filter lX).length=(ee z).sets.length:=rfl;omega)];rfl
 rw[show IntKind.i64.wrap ((((z.sets.filter lX).map ak).length:Int)+(((ns,e).fst.map ba).length:Int))=_ from ew];rw[if_neg (by rw[h2];decide)]at hR1;refine af (λh3=>?_) (λh3=>?_) <;> (rw[h3];conv=>whnf)
 . refine aj rfl ?_;rw[hR1,if_pos h3];rfl
 rw[if_neg (by rw[h3];decide)]at hR1
 (refine⟨_,_,Fo (ee z) ns (by omega) (by omega) hty,?_⟩;conv=>whnf)
 (refine⟨(by kernel_rfl:bA _=true),?_⟩;conv=>whnf)
 have hsm:=jQ hvb;have fin:=Hk z.apex (ee z) (ig (ee z) ns) (by omega) (by rw[lW];omega) (λs hs=>⟨by have:=hsm s hs;omega,by have:=hsm s hs;omega⟩);rw[hR1];refine⟨?_,?_⟩ <;> (conv=>whnf)
 . rw[show IntKind.i64.wrap ((((z.sets.filter lX).map ak).length:Int)+(((ns,e).fst.map ba).length:Int))=_ from ew];refine⟨by decide,.inr rfl,by omega,by(show _*80<=_;omega),by omega,?_⟩
   conv=>whnf
   repeat' (first
    |exact fin _ (aC.keep ⟨ae,ae,ae,ae,trivial⟩ ⟨ae,ae,ae,ae,trivial⟩)
    |(refine⟨by kernel_rfl,?_⟩;conv=>whnf)
    |fail)
 . repeat' (first
    |exact fin _ (aC.keep ⟨ae,ae,ae,ae,trivial⟩ ⟨ae,ae,ae,ae,trivial⟩)
    |(refine⟨by kernel_rfl,?_⟩;conv=>whnf)
    | (rw [show IntKind.i64.wrap ((((z.sets.filter lX).map ak).length : Int) + (((ns, e).fst.map ba).length : Int)) = _ from ew]
       refine⟨by decide,.inr rfl,by omega,by(show _*80<=_;omega),by omega,?_⟩
       conv=>whnf)
    |fail)
end Go.Proofs.YtodofogcincleaaGreatDoor
