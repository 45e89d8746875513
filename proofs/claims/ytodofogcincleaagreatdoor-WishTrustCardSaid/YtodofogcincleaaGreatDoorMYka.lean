/-
  Merged texts.
-/
import Derived.Test.YtodofogcincleaaGreatDoorYkM
import Derived.Test.YtodofogcincleaaGreatDoorMYa
set_option linter.all false
set_option maxHeartbeats 16000000
set_option maxRecDepth 100000
namespace NQ
open Go Go.RowKit
theorem QU{w:World}{O O' :Nat->Prop}{e:TypeId}{sz:Nat}{rows:List (List D)}{v:Value}{xs:List Value}(h:w.ownsRow 0 e sz v rows.length xs)(hr:∀r∈rows,r.length=sz/\ ∀d∈r,d.one=true)
 (hc:∀i r j d,rows[i]? =some r->r[j]? =some d-> ∃u,xs[i*sz+j]? =some u/\Rep w O d u) (hO:∀b,O' b->O b) (hv:∀b,home v=some b-> ¬O' b):Rep w O' (.slice sz rows) v:=by
 rcases h.2 with ⟨rfl,h2⟩|⟨g,cap,cur,rfl,_,h3,h4,h5,h6,h7⟩
 .have:rows=[]:=List.length_eq_zero_iff.1 h2;subst this;exact .empty _ _ _
 .have hJ:g<w.heap.size:=(bI.1 h3).1;refine .slice sz rows g 0 _ cap (λi j=>xs.getD (i*sz+j) Go.undef) rfl (hv g rfl) hJ h4 hr (λi r j d hi hj=>?_) λi r j d hi hj=>?_
  .obtain⟨u,hu,_⟩:=hc i r j d hi hj;have hg:xs.getD (i*sz+j) Go.undef=u:=by rw[List.getD_eq_getElem?_getD,hu];rfl
   rw[hg,Nat.zero_add];simp only[World.cell?,h3];rw[<- h7,List.getElem?_take]at hu;split at hu
   .simpa using hu
   .cases hu
  .obtain⟨u,hu,hd⟩:=hc i r j d hi hj;have hg:xs.getD (i*sz+j) Go.undef=u:=by rw[List.getD_eq_getElem?_getD,hu];rfl
   rw[hg];exact hd.mono (bw.less λb hb=>hO b hb)
end NQ
namespace Go.Proofs.YtodofogcincleaaGreatDoor
open NQ Go.RowKit Go.Lib
abbrev FF(af:Bs)(rows:List (List D))(r:List D)(fl f2:Bool):List (Nat×Blk):=[(56,.row 68 5 [r] f2),(100004,.box [.d (.str af),.own 90020]),(90020,.row 68 5 rows fl)]
theorem KN(af:Bs)(rows:List (List D))(i:Nat)(r:List D)(hi:i<=rows.length)(xS:rows.length<=100000)(fl f2:Bool) :
 FnP cxW pv0 184 [.own 90020,.d (.int .i64 i),.own 56] (FF af rows r fl f2)
  (some (.own 90020,[(100004,.box [.d (.str af),.undef]),(90020,.row 68 5 (rows.take i++[r]++rows.drop i))])):=by
 refine⟨⟨_,Tryz.func184,by kernel_rfl,by kernel_rfl⟩,λO w σ vs hO hG kA kt hH kQ ki=>?_⟩;obtain⟨xs,o1,o2,o3,o4,o5⟩:=hH.blk 90020 _ rfl;obtain⟨ys,p1,p2,p3,p4,p5⟩:=hH.blk 56 _ rfl;obtain⟨zb,zc,zt,z1,z2,z3,z4,z5⟩:=hH.blk 100004 _ rfl;have l1:live (FF af rows r fl f2) 90020:=aH.2 ⟨_,rfl⟩;have l2:live (FF af rows r fl f2) 56:=aH.2 ⟨_,rfl⟩;have l3:live (FF af rows r fl f2) 100004:=aH.2 ⟨_,rfl⟩;have v0:vs.getD 0 Go.undef=σ 90020:=by have:=ki 0 _ rfl;generalize vs.getD 0 Go.undef=u at this;cases this;rfl
 have v1:vs.getD 1 Go.undef= .int .i64 i:=by have:=ki 1 _ rfl;exact this.int
 have v2:vs.getD 2 Go.undef=σ 56:=by have:=ki 2 _ rfl;generalize vs.getD 2 Go.undef=u at this;cases this;rfl
 have yk:vs= #[σ 90020,.int .i64 i,σ 56]:=by rw[Sc kQ,v0,v1,v2]
 have kC:∀b,home (σ 90020)=some b->home (σ 56)≠some b:=λb h1 h2=>by
  have:=hH.inj 90020 56 b l1 l2 h1 h2;omega
 have xb:home (σ 100004)=some zb:=by rw[z1];rfl
 have xi:home (σ 90020)≠some zb:=λh=>by
  have:=hH.inj 90020 100004 zb l1 l3 h xb;omega
 have xG:zb<w.heap.size:=(bI.1 z3).1
 let O2:Nat->Prop:=λb=>(O b\/home (σ 90020)=some b)\/b=zb
 have yt:∀b,O2 b->NQ.Own O (live (FF af rows r fl f2)) σ b:=λb hb=>by
  rcases hb with (hb|hb)|rfl
  .exact .inl hb
  .exact .inr ⟨_,l1,hb⟩
  .exact .inr ⟨_,l3,xb⟩
 have hd:=QU (O' :=O2) p1 p4 p5 yt (λb hb h=>by
  rcases h with (h|h)|rfl
  .exact kt b h ⟨_,l2,hb⟩
  .exact kC b h hb
  .have:=hH.inj 56 100004 _ l2 l3 hb xb;omega)
 have xd := KM rows i r hi xS O2 w (σ 90020) (σ 56) xs (fun b hb => by
     rcases hb with (hb|hb)|rfl
     .exact hO b hb
     .exact(cZ.home (hH.blk 90020 _ rfl)).1 b hb |>.2
     .exact xG) hG (λg cells hg h=>by
     rcases h with (h|h)|rfl
     .exact(kA g cells hg).1 h
     .exact(kA g cells hg).2 ⟨_,l1,h⟩
     .exact(kA _ cells hg).2 ⟨_,l3,xb⟩) (λg hg=> .inl (.inr hg)) o1 o4 (λi r j d hi hj=>by
     obtain⟨u,hu,hd⟩:=o5 i r j d hi hj;exact⟨u,hu,hd.mono (bw.less yt)⟩) hd (λB off n c e=>by
     rcases p1.2 with ⟨_,h⟩|⟨g,cap,cur,e',_,h3,_⟩
     .cases h
     .rw[e']at e;cases e;exact⟨⟨cur,_,h3⟩,λh=>kC _ h (by rw[e'];rfl)⟩)
 rw[yk];refine xd.mono ?_;rintro en w' ⟨v',yp,rfl,q1,q2,q3,q4,q5,q6,q7,q8,q9⟩;refine⟨⟨q1,q2,q3,q4,λb hb=>?_⟩,?_⟩
 .by_cases hJ:b<w.heap.size
  .exact q5 b hJ λe=>hb (.inl ⟨90020,l1,e⟩)
  .exact absurd (.inr (by omega)) hb
 let σ' :Nat->Value:=λs=>if s=90020 then v' else σ s
 have e1:σ' 90020=v' :=if_pos rfl;have e3:σ' 100004=σ 100004:=if_neg (by omega);obtain⟨h',xI⟩:∃h',h' =[(100004,Blk.box [.d (.str af),.undef]),(90020,Blk.row 68 5 (rows.take i++[r]++rows.drop i))]:=⟨_,rfl⟩
 rw[<- xI];have yO:find h' 100004=some (Blk.box [.d (.str af),.undef]):=by rw[xI];rfl
 have yx:find h' 90020=some (Blk.row 68 5 (rows.take i++[r]++rows.drop i)):=by rw[xI];rfl
 have yA:∀s b,find h' s=some b->s=100004\/s=90020:=λs b hb=>by
  have:=fh hb;rw[xI]at this;simp only[List.mem_cons,Prod.mk.injEq,List.not_mem_nil,or_false]at this;rcases this with h|h
  .exact .inl h.1
  .exact .inr h.1
 have xJ :∀s,live h' s->s=100004\/s=90020:=λs hs=>by
  obtain⟨b,hb⟩:=aH.1 hs;exact yA s b hb
 have hk:bw w w' O2 (NQ.Own O (live h') σ'):=by
  refine⟨q4,λb hb hJ=>q5 b hJ λe=>hb (.inl (.inr e)),λb hb hJ ho=>?_⟩;rcases ho with ho|⟨s,hs,e⟩
  .exact hb (.inl (.inl ho))
  .rcases xJ s hs with rfl|rfl
   .rw[e3,xb]at e;cases e;exact hb (.inr rfl)
   .rw[e1]at e;rcases q6 b e with e|e
    .exact hb (.inl (.inr e))
    .omega
 refine⟨v',σ',rfl,⟨λs b hb=>?_,λs s' b h1 h2 f1 f2=>?_⟩,λs hs yY=>?_,?_⟩
 .rcases yA s b hb with rfl|rfl
  .rw[yO]at hb;cases hb;refine⟨zb,zc,zt,by rw[e3,z1],.inl ⟨100004,l3,xb⟩,(q5 zb xG xi).trans z3,z4,λj c hj=>?_⟩;rcases j with _|_|j
   .cases hj;refine⟨.inl rfl,?_⟩;have hz:=(z5 0 _ rfl).2;cases hz with|d _ _ hz=>exact .d _ _ (hz.fG rfl)
   .cases hj;exact⟨.inr rfl,.undef _⟩
   .simp at hj
  .rw[yx]at hb;cases hb;refine⟨yp,by rw[e1];exact q7,λb hb=>?_,⟨by decide,λe=>by cases e⟩,q8,λa q j d ha hj=>?_⟩
   .rw[e1]at hb;rcases q6 b hb with e|e
    .exact .inl ⟨90020,l1,e⟩
    .exact .inr e
   .obtain⟨z,hz,hd⟩:=q9 a q j d ha hj;exact⟨z,hz,hd.mono hk⟩
 .rcases xJ s h1 with rfl|rfl <;> rcases xJ s' h2 with rfl|rfl
  .rfl
  .rw[e3,xb]at f1;cases f1;rw[e1]at f2;rcases q6 _ f2 with e|e
   .exact absurd e xi
   .omega
  .rw[e3,xb]at f2;cases f2;rw[e1]at f1;rcases q6 _ f1 with e|e
   .exact absurd e xi
   .omega
  .rfl
 .rcases xJ s yY with rfl|rfl
  .exact e3
  .simp[cS]at hs
 .have:=aG.own (w:=w') (O:=O) (σ:=σ') 90020 (aH.2 ⟨_,yx⟩);rw[e1]at this;exact this
end Go.Proofs.YtodofogcincleaaGreatDoor
namespace NQ
open Go
def App(X:St->Prop)(s:St):Prop:=X s
theorem sU{α:Type}{G:Prop}{P:α->Prop}{canon:α->St}{X:St->Prop}(h1:(∀a,P a->App X (canon a))->G)(h2:∀a,P a->App X (canon a)):G:=h1 h2
theorem nj{cx:Cx}{fre:List Nat}{st st1:St}{X:St->Prop}(hw:aq cx fre st st1)(h:App X st1):∃st',aq cx fre st st' /\X st' :=⟨st1,hw,h⟩
end NQ
namespace Go.Proofs.YtodofogcincleaaGreatDoor
open NQ Go.RowKit
def KX(l:List Signed)(x:Signed)(h:Nat):Bool:=match l[h]? with|some y=>decide (wE y x<0)|none=>false
def tX(l:List Signed)(x:Signed)(h:Nat):Bool:=match l[h]? with|some y=>wE y x==0|none=>false
def jR(l:List Signed)(x:Signed):Nat->Nat->Nat->Nat
 |0,i,_=>i
 |f+1,i,j=>if i<j then(if KX l x ((i+j) / 2)=true then jR l x f ((i+j) / 2+1) j else jR l x f i ((i+j) / 2))else i
def bsW(l:List Signed)(x:Signed):Nat:=jR l x (l.length+1) 0 l.length
theorem rr(l:List Signed)(x:Signed):∀(f f' i j:Nat),j-i<=f->j-i<=f' ->jR l x f i j=jR l x f' i j
 |0,0,_,_,_,_=>rfl
 |0,f' +1,i,j,h,_=>by rw[jR,jR,if_neg (by omega)]
 |f+1,0,i,j,_,h=>by rw[jR,jR,if_neg (by omega)]
 |f+1,f' +1,i,j,h,h' =>by
  rw[jR,jR];split
  .split
   .exact rr l x f f' _ _ (by omega) (by omega)
   .exact rr l x f f' _ _ (by omega) (by omega)
  .rfl
theorem MB(l:List Signed)(x:Signed){i j:Nat}(f:Nat)(hf:j-i<=f)(h:i<j):jR l x f i j=if KX l x ((i+j) / 2)=true then jR l x f ((i+j) / 2+1) j else jR l x f i ((i+j) / 2):=by
 obtain⟨f,rfl⟩:∃g,f=g+1:=⟨f-1,by omega⟩
 rw[jR,if_pos h];split
 .exact rr l x _ _ _ _ (by omega) (by omega)
 .exact rr l x _ _ _ _ (by omega) (by omega)
theorem Pn(l:List Signed)(x:Signed)(i f:Nat):jR l x f i i=i:=by
 cases f with
 |zero=>rfl
 |succ f=>rw[jR,if_neg (by omega)]
theorem BE(l:List Signed)(x:Signed):∀(f i j:Nat),i<=j->jR l x f i j<=j
 |0,i,j,h=>h
 |f+1,i,j,h=>by
  rw[jR];split
  .split
   .exact BE l x f _ _ (by omega)
   .exact Nat.le_trans (BE l x f _ _ (by omega)) (by omega)
  .exact h
theorem MC(l:List Signed)(x:Signed):bsW l x<=l.length:=BE l x _ _ _ (Nat.zero_le _)
def eM(z:aO)(s:Bs)(kind aP:Int)(data:List Datum):Signed:=⟨⟨s,kind,if (wfR z s kind).2=true then(wfR z s kind).1.aP else aP,data⟩,[]⟩
def bL(z:aO)(s:Bs)(kind aP:Int)(data:List Datum):aO :=
 ⟨z.af,if tX z.ak (eM z s kind aP data) (bsW z.ak (eM z s kind aP data))=true then z.ak.set (bsW z.ak (eM z s kind aP data)) (eM z s kind aP data)
  else z.ak.take (bsW z.ak (eM z s kind aP data))++[eM z s kind aP data]++z.ak.drop (bsW z.ak (eM z s kind aP data))⟩
theorem UJ(l:List Signed)(x:Signed)(hl:l.length<=100000) :
 NQ.Fn cx 182 [.slice 5 (l.map aw),.agg (aw x),.fn 183 [] []] (.tuple [.d (.int .i64 (bsW l x)),.d (.bool (tX l x (bsW l x)))]) []:=by
 refine aT bo mixed Tryz.func182 ?_;conv=>whnf
 refine⟨Nat×Nat,λq=>⟨[(0,.d (.slice 5 (l.map aw))),(2,.d (.fn 183 [] [])),(4,.ptr 4 0),(8,.d (.int .i64 ((l.map aw).length:Int))),(9,.d (.int .i64 q.1)),(10,.d (.int .i64 q.2))],[(4,.box ((aw x).map .d))]⟩,
  λq=>q.1<=q.2/\q.2<=l.length/\jR l x (l.length+1) q.1 q.2=bsW l x,λq=>q.2-q.1,⟨(0,l.length),⟨Nat.zero_le _,Nat.le_refl _,rfl⟩,aK.keep ⟨ae,ae,ae,ae,ae,⟨(by show AV.d (D.int _ _)=_;simp),rfl⟩,trivial⟩ ⟨ae,trivial⟩⟩,λ⟨i,j⟩ ⟨h2,h3,h4⟩=>?_⟩
 dsimp only at h2 h3 h4 ⊢;conv=>whnf
 refine aj (λh=>?_) (λh=>?_) <;> (rw[h];conv=>whnf)
 .have ya:i<j:=by simp at h;omega
  rw[MB l x _ (by omega) ya]at h4
  (refine bV ?_;conv=>whnf)
  rw[NI (by omega)];obtain⟨s,hs⟩:∃s,l[(i+j) / 2]? =some s:=⟨_,au (by omega)⟩
  have hJ:KX l x ((i+j) / 2)=decide (wE s x<0):=by unfold KX;rw[hs]
  rw[hJ]at h4;refine⟨aC _,aw s,aM hs,?_⟩;conv=>whnf
  (refine⟨_,_,Ar s x,?_⟩;conv=>whnf)
  refine aj (λh=>?_) (λh=>?_) <;> (rw[h];conv=>whnf)
  .rw[if_pos h]at h4;exact⟨((i+j) / 2+1,j),⟨by dsimp only;omega,h3,h4⟩,by dsimp only;omega,aK.keep ⟨ae,ae,ae,ae,⟨ax (by omega),rfl⟩,ae,trivial⟩ ⟨ae,trivial⟩⟩
  .rw[if_neg (by rw[h];decide)]at h4;exact⟨(i,(i+j) / 2),⟨by dsimp only;omega,by dsimp only;omega,h4⟩,by dsimp only;omega,aK.keep ⟨ae,ae,ae,ae,ae,ae,trivial⟩ ⟨ae,trivial⟩⟩
 .obtain rfl:i=j:=by simp at h;omega
  rw[Pn]at h4;clear h;rw[<- h4]
  (refine bV ?_;conv=>whnf)
  refine aj (λh=>?_) (λh=>?_) <;> (rw[h];conv=>whnf)
  .have hJ:i<l.length:=by simp at h;omega
   obtain⟨s,hs⟩:∃s,l[i]? =some s:=⟨_,au hJ⟩
   refine⟨aC _,aw s,aM hs,?_⟩;conv=>whnf
   (refine⟨_,_,Ar s x,?_⟩;conv=>whnf)
   refine al rfl ?_;show AV.tuple [AV.d (.int .i64 i),AV.d (.bool _)]=_
   simp[tX,hs]
  .refine al rfl ?_;show AV.tuple [AV.d (.int .i64 i),AV.d (.bool _)]=_
   have:l[i]? =none:=by simp at h;simp;omega
   simp[tX,this]
noncomputable def cxB:Cx:={cx with chg:=gX [(110,9),(184,9)]}
theorem tyB:bD cxB:=bo
theorem Ud:cxB.P.follows .mixedOrders=true:=mixed
abbrev fU(z:aO):List (Nat×Blk):=[(100004,.box [.d (.str z.af),.own 90020]),(90020,sN z.ak)]
theorem Mb(z:aO)(s:Bs)(kind:Int)(hn:z.ak.length<=100000):FnP cxW pv0 110 [.agg [.d (.str z.af),.own 90020],.d (.str s),.d (.int .i64 kind)] (fU z) (some (.tuple [.agg ((cg (wfR z s kind).1).map .d),.d (.bool (wfR z s kind).2)],fU z)):=by
 refine bt [] (fun|_=>[]) tyW tj Tryz.func110 ?_;conv=>whnf
 (refine⟨_,yW z.ak (isF s kind) _ _ hn (λx _=>wT x s kind),rfl,?_⟩;conv=>whnf)
 have kN:=lM (isF s kind) z.ak;have ky:wfR z s kind=match z.ak.find? (isF s kind)with|some x=>(x.set,true)|none=>(pq,false):=rfl
 cases hi:z.ak.findIdx? (isF s kind)with
 |none =>
  rw[hi]at kN;rw[<- kN]at ky;conv=>whnf
  exact cq rfl (by rw[ky];rfl) (by rw[ky];rfl)
 |some k =>
  rw[hi]at kN;obtain⟨hJ,_⟩:=List.findIdx?_eq_some_iff_getElem.1 hi;obtain⟨x,hx⟩:∃x,z.ak[k]? =some x:=⟨_,au hJ⟩
  rw[<- kN]at ky;simp only[hx]at ky;conv=>whnf
  refine⟨aC k,by(show k<_;rw[aA];exact hJ),?_⟩;conv=>whnf
  refine⟨aw x,aM hx,?_⟩;conv=>whnf
  exact cq rfl (by rw[ky];rfl) (by rw[ky];rfl)
theorem eU(z:aO)(s:Bs)(kind aP:Int)(data:List Datum)(hn:z.ak.length<=100000)(hd:data.length<=100000) :
 FnP cxB pv0 181 [.ptr 100004 0,.d (.ptr [.str s]),.d (.ptr [.int .i64 kind]),.d (.ptr [.int .i64 aP]),.d (.ptr [.slice 3 (data.map aQ)])] (fU z) (some (.tuple [],fU (bL z s kind aP data))):=by
 refine bt [] (fun|1=>[33333]|2=>[55555]|4=>[55555]|7=>[33333]|_=>[]) tyB Ud Tryz.func181 ?_;conv=>whnf
 (refine bV ?_;conv=>whnf)
 (refine⟨_,_,nG (data.map aQ) (by simpa using hd),?_⟩;conv=>whnf)
 (refine cu ?_;conv=>whnf)
 have hF:=bR (cx' :=cxB) rfl rfl (Mb z s kind hn);apply sU (α:=Unit) (P:=λ_=>True) (canon:=λ_=>⟨[(0,.ptr 100004 0),(1,.d (.ptr [.str s])),(2,.d (.ptr [.int .i64 kind])),(3,.d (.ptr [.int .i64 aP])),(4,.d (.ptr [.slice 3 (data.map aQ)])),(6,.ptr 6 0),(7,.ptr 7 0),(8,.d (.bool (wfR z s kind).2))],
  [(100004,.box [.d (.str z.af),.own 90020]),(90020,sN z.ak),(6,.box [.d (.str s),.d (.int .i64 kind),.d (.int .i64 aP),.d (.slice 3 (data.map aQ)),.nil 6]),(7,.box ((cg (wfR z s kind).1).map .d))]⟩)
 .intro rest
  repeat' (first
   |(refine⟨[6,7],_,hF,⟨rfl,rfl,rfl⟩,?_⟩;(conv=>whnf);refine aL ?_;(conv=>whnf))
   |exact nj (aq.keep) (rest () trivial)
   |(refine And.intro (by kernel_rfl) ?_;conv=>whnf)
   |(refine And.intro ?_ ?_ <;> (conv=>whnf)))
 rintro _ _;unfold App;conv=>whnf
 apply sU (α:=Unit) (P:=λ_=>True) (canon:=λ_=>⟨[(0,.ptr 100004 0),(6,.ptr 6 0)],
  [(100004,.box [.d (.str z.af),.own 90020]),(90020,sN z.ak),(6,.box [.d (.str s),.d (.int .i64 kind),.d (.int .i64 (eM z s kind aP data).set.aP),.d (.slice 3 (data.map aQ)),.nil 6])]⟩)
 .intro rest;have hx:(eM z s kind aP data).set.aP=if (wfR z s kind).2=true then(wfR z s kind).1.aP else aP:=rfl
  refine aj (λh1=>?_) (λh1=>?_) <;> (rw[h1];conv=>whnf)
  .rw[if_pos h1]at hx;rw[hx]at rest;exact nj (aq.keep) (rest () trivial)
  .rw[if_neg (by rw[h1];decide)]at hx;rw[hx]at rest;exact nj (aq.keep) (rest () trivial)
 rintro _ _;unfold App;conv=>whnf
 have yu:bL z s kind aP data=⟨z.af,if tX z.ak (eM z s kind aP data) (bsW z.ak (eM z s kind aP data))=true then z.ak.set (bsW z.ak (eM z s kind aP data)) (eM z s kind aP data)
  else z.ak.take (bsW z.ak (eM z s kind aP data))++[eM z s kind aP data]++z.ak.drop (bsW z.ak (eM z s kind aP data))⟩:=rfl
 have hX:aw (eM z s kind aP data)=[.str s,.int .i64 kind,.int .i64 (eM z s kind aP data).set.aP,.slice 3 (data.map aQ),.slice 6 []]:=rfl;have hle:=MC z.ak (eM z s kind aP data);have hb:=UJ z.ak (eM z s kind aP data) hn;rw[hX]at hb;generalize eM z s kind aP data=X at yu hX hle hb ⊢;rw[yu]
 (refine bV ?_;conv=>whnf)
 (refine⟨_,hb,by kernel_rfl,?_⟩;conv=>whnf)
 refine aj (λh1=>?_) (λh1=>?_) <;> (rw[h1];conv=>whnf)
 .have hJ:bsW z.ak X<z.ak.length:=by
   unfold tX at h1;split at h1
   .rename_i y hy;exact(aB.1 hy).1
   .cases h1
  rw[if_pos rfl]
  (refine bV ?_;conv=>whnf)
  refine⟨aC _,by(show bsW z.ak X<_;rw[aA];exact hJ),?_⟩;conv=>whnf
  obtain⟨y,hy⟩:∃y,z.ak[bsW z.ak X]? =some y:=⟨_,au hJ⟩
  refine⟨aw y,aM hy,?_⟩;conv=>whnf
  have xD:(z.ak.set (bsW z.ak X) X).map aw=(z.ak.map aw).set (bsW z.ak X) (aw X):=List.map_set;rw[hX]at xD;exact .inl ⟨[],aq.keep trivial ⟨⟨rfl,rfl⟩,⟨congrArg (λr=>some (Blk.row 68 5 r)) xD.symm,rfl⟩,trivial⟩,rfl⟩
 .rw[if_neg (by decide)];have hI:=λfl f2=>bR (cx' :=cxB) rfl rfl (KN z.af (z.ak.map aw) (bsW z.ak X) (aw X) (by simpa using hle) (by simpa using hn) fl f2)
  rw[hX]at hI
  (refine cu ?_;conv=>whnf)
  repeat' (first
   |(refine⟨[6],_,hI _ _,⟨rfl,rfl,rfl⟩,?_⟩;(conv=>whnf);refine aL ?_;(conv=>whnf))
   |(refine And.intro (by kernel_rfl) ?_;conv=>whnf)
   |(refine And.intro ?_ ?_ <;> (conv=>whnf)))
  have xy:(z.ak.take (bsW z.ak X)++[X]++z.ak.drop (bsW z.ak X)).map aw=(z.ak.map aw).take (bsW z.ak X)++[aw X]++(z.ak.map aw).drop (bsW z.ak X):=by
   rw[List.map_append,List.map_append,List.map_take,List.map_drop];rfl
  rw[hX]at xy
  all_goals exact .inl ⟨[],aq.keep trivial ⟨⟨rfl,rfl⟩,⟨congrArg (λr=>some (Blk.row 68 5 r)) xy.symm,rfl⟩,trivial⟩,rfl⟩
end Go.Proofs.YtodofogcincleaaGreatDoor
namespace NQ
open Go Go.RowKit
theorem SB{cx:Cx}{fre:List Nat}{st:St}(s:Nat)(cs cs' :List AV)(hf:find st.heap s=some (.box cs))(hc:∀(j:Nat) c,cs'[j]? =some c->c= .undef\/cs[j]? =some c)(hl:cs'.length=cs.length:=by rfl):aq cx fre st ⟨st.aV,(s,.box cs')::st.heap⟩:=by
 refine(aK.LL s (.box cs) (.box cs') hf λw F O L σ h=>?_).toP;obtain⟨b,cur,t,h1,h2,h3,h4,h5⟩:=h;refine⟨b,cur,t,h1,h2,h3,h4.trans hl.symm,λj c hj=>?_⟩;rcases hc j c hj with rfl|hj
 .exact⟨.inr rfl,.undef _⟩
 .exact h5 j c hj
end NQ
namespace Go.Proofs.YtodofogcincleaaGreatDoor
open NQ Go.RowKit
theorem On(s:cG)(x:bA):NQ.Fn cx 133 [.agg (cg s),.ptr (bj x)] (.d (.bool (decide (s.type=8)|| !(bK s.name x.name).1))) []:=by
 refine aT bo mixed Tryz.func133 ?_;conv=>whnf
 repeat' (first|(refine⟨_,_,nC s.name x.name,?_⟩;conv=>whnf)|(refine aj (λh=>?_) (λh=>?_) <;> (rw[h];conv=>whnf))|fail)
 all_goals (refine al rfl ?_;show AV.d (D.bool _)=AV.d (D.bool _);congr 2;(try simp_all))
theorem Oo(s:cG)(x:bA):NQ.Fn cx 135 [.agg (cg s),.ptr (bj x)] (.d (.bool (bK s.name x.name).1)) []:=by
 refine aT bo mixed Tryz.func135 ?_;conv=>whnf
 (refine⟨_,_,nC s.name x.name,?_⟩;conv=>whnf)
 exact al rfl rfl
theorem IJ(s:Signed)(x:bA):NQ.Fn cx 197 [.agg (aw s),.ptr [.fn 133 [] [.ptr (bj x)]]] (.d (.bool (decide (s.set.type=8)|| !(bK s.set.name x.name).1))) []:=by
 refine aT bo mixed Tryz.func197 ?_;conv=>whnf
 (refine⟨_,_,On s.set x,?_⟩;conv=>whnf)
 exact al rfl rfl
theorem IK(s:Signed)(x:bA):NQ.Fn cx 197 [.agg (aw s),.ptr [.fn 135 [] [.ptr (bj x)]]] (.d (.bool (bK s.set.name x.name).1)) []:=by
 refine aT bo mixed Tryz.func197 ?_;conv=>whnf
 (refine⟨_,_,Oo s.set x,?_⟩;conv=>whnf)
 exact al rfl rfl
theorem SE(l:List Signed)(p:Signed->Bool)(x:D)(hn:l.length<=100000)(hf:∀s∈l,NQ.Fn cx 197 [.agg (aw s),x] (.d (.bool (p s))) []) :
 NQ.Fn cx 177 [.slice 5 (l.map aw),.fn 197 [] [x]] (.d (.int .i64 (match l.findIdx? p with|some k=>(k:Int)|none=> -1))) []:=by
 refine aT bo mixed Tryz.func177 ?_;conv=>whnf
 refine⟨Nat,λk=>⟨[(0,.d (.slice 5 (l.map aw))),(1,.d (.fn 197 [] [x])),(7,.d (.int .i64 ((l.map aw).length:Int))),(8,.d (.int .i64 k))],[]⟩,λk=>k<=l.length/\ ∀j y,j<k->l[j]? =some y->p y=false,λk=>l.length-k,
  ⟨0,⟨by omega,λj y h=>by omega⟩,aK.keep ⟨ae,ae,ae,ae,trivial⟩ trivial⟩,λk hk=>?_⟩
 obtain⟨hk,kJ⟩:=hk;conv=>whnf
 refine aj (λh1=>?_) (λh1=>?_) <;> (rw[h1];conv=>whnf)
 .have hJ:k<l.length:=by simp at h1;omega
  obtain⟨s,hs⟩:∃s,l[k]? =some s:=⟨_,au hJ⟩
  refine⟨aC k,aw s,aM hs,?_⟩;conv=>whnf
  (refine⟨_,_,hf s (aD hs),?_⟩;conv=>whnf)
  refine aj (λh2=>?_) (λh2=>?_) <;> (rw[h2];conv=>whnf)
  .refine al rfl ?_;have:l.findIdx? p=some k:=by
    rw[List.findIdx?_eq_some_iff_getElem];obtain⟨g1,g2⟩:=aB.1 hs;refine⟨g1,by rw[g2];exact h2,λj hj=>?_⟩;have:=kJ j (l[j]) hj (au (by omega));rw[this];decide
   rw[this];rfl
  .refine⟨k+1,⟨hJ,λj y hj hy=>?_⟩,by(show l.length-(k+1)<l.length-k;omega),aK.keep ⟨ae,ae,ae,⟨ax (by omega),rfl⟩,trivial⟩ trivial⟩;rcases Nat.lt_succ_iff_lt_or_eq.1 hj with hj|rfl
   .exact kJ j y hj hy
   .rw[hs]at hy;cases hy;exact h2
 .obtain rfl:k=l.length:=by simp at h1;omega
  refine al rfl ?_;have:l.findIdx? p=none:=by
   rw[List.findIdx?_eq_none_iff];intro x hx;obtain⟨i,hi⟩:=cQ hx;exact kJ i x (aB.1 hi).1 hi
  rw[this];rfl
noncomputable def cxX:Cx:={cx with chg:=gX [(196,9)]}
theorem tyX:bD cxX:=bo
theorem Ui:cxX.P.follows .mixedOrders=true:=mixed
noncomputable def PC:Cx:={cx with bld:=[777001]}
theorem Vl:bD PC:=bo
theorem SS:PC.P.follows .mixedOrders=true:=mixed
theorem Hp(z:aO)(p:Signed->Bool)(F:FuncId)(y:bA)(hn:z.ak.length<=100000)(hf:∀s,NQ.Fn cx 197 [.agg (aw s),.ptr [.fn F [] [.ptr (bj y)]]] (.d (.bool (p s))) []) :
 FnP cxW pv0 196 [.own 90020,.fn 197 [] [.d (.ptr [.fn F [] [.ptr (bj y)]])]] (fU z)
  (some (.own 90020,[(100004,.box [.d (.str z.af),.undef]),(90020,sN (z.ak.filter λs=> !p s))])):=by
 refine bR (cx:=PC) rfl rfl ?_;refine bt [] (fun|11=>[33333]|12=>[33333]|_=>[]) Vl SS Tryz.func196 ?_;conv=>whnf
 (refine⟨_,SE z.ak p (.ptr [.fn F [] [.ptr (bj y)]]) hn (λs _=>hf s),by kernel_rfl,?_⟩;conv=>whnf)
 cases hi:z.ak.findIdx? p with
 |none =>
  have kJ:(z.ak.filter λs=> !p s)=z.ak:=by
   rw[List.filter_eq_self];intro s hs;have:=List.findIdx?_eq_none_iff.1 hi s hs;rw[this];rfl
  rw[kJ];conv=>whnf
  refine gz (SB 100004 [.d (.str z.af),.own 90020] [.d (.str z.af),.undef] rfl (λj c h=>?_)) rfl rfl rfl;rcases j with _|_|j
  .exact .inr h
  .cases h;exact .inl rfl
  .simp at h
 |some k =>
  obtain⟨hk,kh,xR⟩:=List.findIdx?_eq_some_iff_getElem.1 hi;have h1:((k:Int)== -1)=false:=by simp
  rw[show((match (some k:Option Nat)with|some k=>(k:Int)|none=> -1)== -1)=false from h1];conv=>whnf
  have kd:(z.ak.take (k+1)).filter (λs=> !p s)=z.ak.take k:=by
   rw[List.take_add_one,au hk,List.filter_append];have e1:(z.ak.take k).filter (λs=> !p s)=z.ak.take k:=by
    rw[List.filter_eq_self];intro s hs;obtain⟨j,hj⟩:=cQ hs;rw[List.getElem?_take]at hj;split at hj
    .rename_i yV;obtain⟨g1,g2⟩:=aB.1 hj;have:=xR j yV;rw[g2]at this;simpa using this
    .cases hj
   rw[e1];simp[kh]
  refine⟨Nat×Nat×List Signed,λq=>⟨[(0,.own 90020),(1,.fn 197 [] [.d (.ptr [.fn F [] [.ptr (bj y)]])]),(5,.d (.int .i64 q.1)),(6,.d (.int .i64 q.2.1))],[(100004,.box [.d (.str z.af),.own 90020]),(90020,sN q.2.2)]⟩,
   λq=>q.1<q.2.1/\q.2.1<=z.ak.length/\q.2.2.length=z.ak.length/\q.2.2.take q.1=(z.ak.take q.2.1).filter (λs=> !p s)/\q.2.2.drop q.2.1=z.ak.drop q.2.1,λq=>z.ak.length-q.2.1,
   ⟨(k,k+1,z.ak),⟨by dsimp only;omega,hk,rfl,kd.symm,rfl⟩,aq.keep ⟨ae,ae,ae,⟨ax (by omega),rfl⟩,trivial⟩⟩,?_⟩
  rintro⟨i,j,R⟩ ⟨ya,hj,hR,hT,hD⟩;dsimp only at ya hj hR hT hD;conv=>whnf
  refine aj (λh2=>?_) (λh2=>?_) <;> (rw[h2];conv=>whnf)
  .have hJ:j<z.ak.length:=by simp at h2;omega
   obtain⟨s,hs⟩:∃s,z.ak[j]? =some s:=⟨_,au hJ⟩
   have yL:R[j]? =some s:=by
    have:=congrArg (λl=>l[0]?) hD;simpa [List.getElem?_drop,hs] using this
   have yH:(z.ak.take (j+1)).filter (λs=> !p s)=(z.ak.take j).filter (λs=> !p s)++(if p s=true then[]else[s]):=by
    rw[bO hs,List.filter_append];cases hp:p s <;> simp[hp]
   have yw:R.drop (j+1)=z.ak.drop (j+1):=by
    rw[<- List.drop_drop, <- List.drop_drop,hD]
   refine⟨aC j,by(show j<_;rw[aA,hR];exact hJ),?_⟩;conv=>whnf
   refine⟨aw s,aM yL,?_⟩;conv=>whnf
   (refine⟨_,_,hf s,?_⟩;conv=>whnf)
   refine aj (λh3=>?_) (λh3=>?_) <;> (rw[h3];conv=>whnf)
   .have hp:p s=false:=by simpa using h3
    refine⟨aC i,by(show i<_;rw[aA,hR];omega),?_⟩;conv=>whnf
    obtain⟨y,hy⟩:∃y,R[i]? =some y:=⟨_,au (by omega)⟩
    refine⟨aw y,aM hy,?_⟩;conv=>whnf
    refine⟨(i+1,j+1,R.set i s),⟨by dsimp only;omega,hJ,by(show(R.set i s).length=_;rw[List.length_set,hR]),?_,?_⟩,by(show z.ak.length-(j+1)<z.ak.length-j;omega),aq.keep ⟨ae,ae,⟨ax (k:=i) (by omega),rfl⟩,⟨ax (k:=j) (by omega),rfl⟩,trivial⟩ ⟨ae,⟨congrArg (λr=>some (Blk.row 68 5 r)) (List.map_set (f:=aw) (l:=R) (i:=i) (a:=s)).symm,rfl⟩,trivial⟩⟩
    .show(R.set i s).take (i+1)=_
     rw[yH,if_neg (by rw[hp];decide), <- hT,List.take_add_one,List.getElem?_set_self (by omega),List.take_set_of_le (Nat.le_refl _)];rfl
    .show(R.set i s).drop (j+1)=_
     rw[List.drop_set_of_lt (by omega),yw]
   .have hp:p s=true:=by simpa using h3
    refine⟨(i,j+1,R),⟨by dsimp only;omega,hJ,hR,?_,yw⟩,by(show z.ak.length-(j+1)<z.ak.length-j;omega),aq.keep ⟨ae,ae,ae,⟨ax (k:=j) (by omega),rfl⟩,trivial⟩⟩;show R.take i=_
    rw[yH,if_pos hp,List.append_nil];exact hT
  .obtain rfl:j=z.ak.length:=by simp at h2;omega
   rw[List.take_length]at hT;refine⟨aC i,by(show i<_;rw[aA,hR];omega),?_⟩;conv=>whnf
   refine⟨by(show i<_;rw[aA,hR];omega),?_⟩;conv=>whnf
   refine⟨aC i,by(show i<_;rw[List.length_append,List.length_take,List.length_replicate,aA,hR];omega),?_⟩;conv=>whnf
   have xk:∀y:List D,((R.map aw).take i++List.replicate ((R.map aw).length-i) y).take i=(z.ak.filter λs=> !p s).map aw:=λy=>by
    rw[List.take_append_of_le_length (by rw[List.length_take,aA,hR];omega),List.take_take,Nat.min_self, <- List.map_take,hT]
   refine gz (aq.keep (sl:=[(4,.own 90020)]) (h:=[(100004,.box [.d (.str z.af),.undef]),(90020,sN (z.ak.filter λs=> !p s))]) (by repeat' (first|exact trivial|refine⟨⟨rfl,rfl⟩,?_⟩)) ⟨⟨rfl,rfl⟩,⟨congrArg (λr=>some (Blk.row 68 5 r)) (xk _),rfl⟩,trivial⟩) rfl rfl rfl
theorem wU(z:aO)(p:Signed->Bool)(F:FuncId)(y:bA)(hn:z.ak.length<=100000)(hf:∀s,NQ.Fn cx 197 [.agg (aw s),.ptr [.fn F [] [.ptr (bj y)]]] (.d (.bool (p s))) []) :
 FnP cxX pv0 195 [.ptr 100004 0,.d (.ptr [.fn F [] [.ptr (bj y)]])] (fU z) (some (.tuple [],fU ⟨z.af,z.ak.filter λs=> !p s⟩)):=by
 refine bt [] (fun|0=>[33333]|_=>[]) tyX Ui Tryz.func195 ?_;conv=>whnf
 have hD:=bR (cx' :=cxX) rfl rfl (Hp z p F y hn hf);refine⟨[],_,hD,⟨rfl,rfl,rfl⟩,?_⟩;conv=>whnf
 refine aL ?_;conv=>whnf
 exact .inl ⟨[],aq.keep trivial,rfl⟩
theorem Kn(l:List Signed)(hn:l.length<=100000):FnP cxW pv0 193 [.d (.slice 5 (l.map aw))] [] (some (.own 90020,[(90020,sN l)])):=by
 refine bt [] (fun|_=>[]) tyW tj Tryz.func193 ?_;conv=>whnf
 refine⟨λh=>?_,?_⟩
 .have hl:l=[]:=by
   have:=List.isEmpty_iff.1 h;simpa using this
  subst hl;conv=>whnf
  exact gz (aq.jV 2 90020 5 68 5 rfl rfl (by decide)) rfl rfl rfl
 .conv=>whnf
  refine⟨by(show 0+(l.map aw).length<=_;rw[aA];omega),by(show(0+(l.map aw).length)*80<=_;rw[aA];omega),?_⟩;conv=>whnf
  exact gz (aq.name 5 90020 rfl rfl) rfl rfl rfl
noncomputable def EY:Cx:={cx with chg:=gX [(193,9)]}
theorem Vj:bD EY:=bo
theorem SQ:EY.P.follows .mixedOrders=true:=mixed
theorem km(z:aO)(hn:z.ak.length<=100000)(hs:∀s∈z.ak,s.set.data.length<=100000/\s.sigs.length<=100000) :
 FnP EY pv0 131 [.agg ((aX z).map .d)] [] (some (.agg [.d (.str z.af),.own 90020],[(90020,sN z.ak)])):=by
 refine bt [] (fun|1=>[33333]|6=>[55555]|_=>[]) Vj SQ Tryz.func131 ?_;conv=>whnf
 have hC:=bR (cx' :=EY) rfl rfl (Kn z.ak hn);refine⟨[1,2],_,hC,⟨rfl,rfl,rfl⟩,?_⟩;conv=>whnf
 refine aL ?_;conv=>whnf
 refine⟨Nat,λk=>⟨[(1,.ptr 1 0),(2,.ptr 2 0),(10,.d (.int .i64 ((z.ak.map aw).length:Int))),(11,.d (.int .i64 k))],[(1,.box [.d (.str z.af),.own 90020]),(2,.box [.d (.str []),.nil 5]),(90020,sN z.ak)]⟩,
  λk=>k<=z.ak.length,λk=>z.ak.length-k,⟨0,Nat.zero_le _,aq.keep⟩,λk hk=>?_⟩
 conv=>whnf
 refine aj (λh1=>?_) (λh1=>?_) <;> (rw[h1];conv=>whnf)
 .have hJ:k<z.ak.length:=by simp at h1;omega
  obtain⟨s,xa⟩:∃s,z.ak[k]? =some s:=⟨_,au hJ⟩
  have kE:=hs s (aD xa);have kW:(z.ak.map aw).set k (aw s)=z.ak.map aw:=by
   rw[<- List.map_set]
   congr 1
   obtain⟨g1,g2⟩:=aB.1 xa;rw[<- g2];exact List.set_getElem_self g1
  (refine bV ?_;conv=>whnf)
  repeat' (first
   |(refine⟨aC k,by(show k<_;rw[aA];exact hJ),?_⟩;conv=>whnf)
   |(refine⟨aw s,aM xa,?_⟩;conv=>whnf)
   |(refine⟨_,_,nG (s.set.data.map aQ) (by simpa using kE.1),?_⟩;conv=>whnf))
  refine⟨_,aq.keep (sl:=[(1,.ptr 1 0),(2,.ptr 2 0),(3,.d (.int .i64 k)),(10,.d (.int .i64 ((z.ak.map aw).length:Int))),(11,.d (.int .i64 k))]) (h:=[(1,.box [.d (.str z.af),.own 90020]),(2,.box [.d (.str []),.nil 5]),(90020,sN z.ak)]) (by repeat' (first|exact trivial|refine⟨⟨rfl,rfl⟩,?_⟩)) ⟨⟨rfl,rfl⟩,⟨rfl,rfl⟩,⟨congrArg (λr=>some (Blk.row 68 5 r)) kW,rfl⟩,trivial⟩,?_⟩;conv=>whnf
  (refine bV ?_;conv=>whnf)
  repeat' (first
   |(refine⟨aC k,by(show k<_;rw[aA];exact hJ),?_⟩;conv=>whnf)
   |(refine⟨aw s,aM xa,?_⟩;conv=>whnf)
   |(refine⟨_,_,vo (s.sigs.map gK) (by simpa using kE.2),?_⟩;conv=>whnf))
  exact⟨k+1,hJ,by(show z.ak.length-(k+1)<z.ak.length-k;omega),aq.keep ⟨ae,ae,ae,⟨ax (k:=k) (by omega),rfl⟩,trivial⟩ ⟨ae,ae,⟨congrArg (λr=>some (Blk.row 68 5 r)) kW,rfl⟩,trivial⟩⟩
 .exact cq rfl rfl rfl
def addrAt(w:aZ)(n:Int):Int:=match w.ay[n.toNat]? with|some h=>h.addr|none=>0
def nK(w:aZ)(aP:Int)(cut:Bs)(z:aO)(n:Int):aO:=if (bK (nameAt w n) cut).1=true then bL z (nameAt w n) 1 aP [⟨[],addrAt w n,0⟩]else z
def di(w:aZ)(aP:Int)(cut:Bs)(ay:List Int)(z:aO):aO:=ay.foldl (nK w aP cut) z
theorem gW(z:aO)(s:Bs)(kind aP:Int)(data:List Datum):(bL z s kind aP data).ak.length<=z.ak.length+1:=by
 unfold bL;dsimp only;split
 .rw[List.length_set];omega
 .rw[List.length_append,List.length_append,List.length_take,List.length_drop];have:=MC z.ak (eM z s kind aP data);simp;omega
theorem pf(w:aZ)(aP:Int)(cut:Bs):∀(l:List Int) (z:aO),(di w aP cut l z).ak.length<=z.ak.length+l.length
 |[],z=>Nat.le_refl _
 |n::t,z=>by
  have:=pf w aP cut t (nK w aP cut z n);have h2:(nK w aP cut z n).ak.length<=z.ak.length+1:=by
   unfold nK;split
   .exact gW _ _ _ _ _
   .omega
  show(di w aP cut t (nK w aP cut z n)).ak.length<=_
  simp;omega
abbrev ll(s:Bs)(kind aP:Int)(data:List Datum):AV:= .fn 181 [] [.d (.ptr [.str s]),.d (.ptr [.int .i64 kind]),.d (.ptr [.int .i64 aP]),.d (.ptr [.slice 3 (data.map aQ)])]
theorem eG(s:Bs)(kind aP:Int)(data:List Datum):FnP cxW pv0 116 [.d (.str s),.d (.int .i64 kind),.d (.int .i64 aP),.d (.slice 3 (data.map aQ))] [] (some (ll s kind aP data,[])):=by
 refine bt [] (fun|_=>[]) tyW tj Tryz.func116 ?_;conv=>whnf
 exact Gl [4,5,6,7] rfl rfl rfl
def bH(o:bz):List (Nat×Blk):=[(100034,.box (QG true o)),(90032,.smap (hZ o.got)),(90040,.row 45 3 (o.aF.map aR)),(90041,.row 40 1 (o.bp.map dC))]
abbrev PZ(o:bz)(z:aO):List (Nat×Blk):=fU z++(100003,.box [.ptr 100034 0])::bH o
noncomputable def cxU:Cx:={cx with chg:=gX [(116,9),(181,9)],bld:=[35]}
theorem tyU:bD cxU:=bo
theorem Ug:cxU.P.follows .mixedOrders=true:=mixed
theorem rG(o:bz)(cut:Bs)(l:List Int)(z:aO)(hh:∀n∈l,bJ o.w n=true)(hl:l.length<=1000)(hn:z.ak.length+l.length<=100000) :
 FnP cxU pv0 185 [.ptr 100004 0,.d (.ptr [.slice 1 (l.map dj)]),.ptr 100003 0,.d (.ptr [.str cut])] (PZ o z) (some (.tuple [],PZ o (di o.w o.aP cut l z))):=by
 refine bt [] (fun|5=>[33333]|_=>[]) tyU Ug Tryz.func185 ?_;conv=>whnf
 refine⟨Nat×aO,λq=>⟨[(0,.ptr 100004 0),(1,.d (.ptr [.slice 1 (l.map dj)])),(2,.ptr 100003 0),(3,.d (.ptr [.str cut])),(8,.d (.slice 1 (l.map dj))),(9,.d (.int .i64 ((l.map dj).length:Int))),(10,.d (.int .i64 q.1))],PZ o q.2⟩,
  λq=>q.1<=l.length/\di o.w o.aP cut (l.drop q.1) q.2=di o.w o.aP cut l z/\q.2.ak.length<=z.ak.length+q.1,λq=>l.length-q.1,⟨(0,z),⟨Nat.zero_le _,rfl,Nat.le_refl _⟩,aq.keep⟩,?_⟩
 rintro⟨k,y⟩ ⟨hk,hy,hs⟩;dsimp only at hk hy hs;conv=>whnf
 refine aj (λh1=>?_) (λh1=>?_) <;> (rw[h1];conv=>whnf)
 .have hJ:k<l.length:=by simp at h1;omega
  obtain⟨n,kG⟩:∃n,l[k]? =some n:=⟨_,au hJ⟩
  have hw:=hh n (aD kG);unfold bJ at hw;simp only[aU,decide_eq_true_eq]at hw;obtain⟨h,xZ⟩:∃h,o.w.ay[n.toNat]? =some h:=⟨_,au (by omega)⟩
  have e1:nameAt o.w n=h.name:=by unfold nameAt;rw[xZ]
  have e2:addrAt o.w n=h.addr:=by unfold addrAt;rw[xZ]
  rw[drop_cons kG]at hy;have hy:di o.w o.aP cut (l.drop (k+1)) (nK o.w o.aP cut y n)=di o.w o.aP cut l z:=hy;unfold nK at hy;rw[e1,e2]at hy;refine⟨aC k,dj n,aM kG,?_⟩;conv=>whnf
  refine⟨hw.1,fJ h,aM xZ,?_⟩;conv=>whnf
  (refine⟨_,_,nC h.name cut,?_⟩;conv=>whnf)
  refine aj (λh3=>?_) (λh3=>?_) <;> (rw[h3];conv=>whnf)
  .rw[if_pos h3]at hy;have hB:=bR (cx' :=cxU) rfl rfl (eG h.name 1 o.aP [⟨[],h.addr,0⟩]);have kf:=bR (cx' :=cxU) rfl rfl (eU y h.name 1 o.aP [⟨[],h.addr,0⟩] (by omega) (by simp));have hlen:=gW y h.name 1 o.aP [⟨[],h.addr,0⟩];generalize bL y h.name 1 o.aP [⟨[],h.addr,0⟩]=y' at hy kf hlen
   (refine cu ?_;conv=>whnf)
   repeat' (first
    |(refine⟨[7,100004,90020,100003,100034,90032,90040,90041],_,hB,⟨rfl,rfl,rfl⟩,?_⟩;(conv=>whnf);refine aL ?_;(conv=>whnf))
    |(refine⟨[7,100003,100034,90032,90040,90041],_,kf,⟨rfl,rfl,rfl⟩,?_⟩;(conv=>whnf);refine aL ?_;(conv=>whnf))
    |(refine And.intro (by kernel_rfl) ?_;conv=>whnf)
    |(refine And.intro ?_ ?_ <;> (conv=>whnf)))
   all_goals exact⟨(k+1,y'),⟨hJ,hy,by dsimp only;omega⟩,by(show l.length-(k+1)<l.length-k;omega),aq.keep ⟨ae,ae,ae,ae,ae,ae,⟨ax (k:=k) (by omega),rfl⟩,trivial⟩⟩
  .rw[if_neg (by rw[h3];decide)]at hy;exact⟨(k+1,y),⟨hJ,hy,by dsimp only;omega⟩,by(show l.length-(k+1)<l.length-k;omega),aq.keep ⟨ae,ae,ae,ae,ae,ae,⟨ax (k:=k) (by omega),rfl⟩,trivial⟩⟩
 .obtain rfl:k=l.length:=by simp at h1;omega
  rw[List.drop_length]at hy;have hy:y=di o.w o.aP cut l z:=hy;subst hy;exact .inl ⟨[],aq.keep trivial,rfl⟩
def pvW(e:Int):Value:= .iface 128 (.agg #[.int .i64 e])
theorem Ky(e:Int)(w:World):Calls Tryz.prog 111 #[.int .i64 e] w λen w' =>en= .panicked [{v:=pvW e,recovered:=false}]/\w' =w:=by
 go_enter Tryz.func111,Tryz.ntmps111
 go_wp2
 exact⟨rfl,rfl,rfl⟩
theorem ku(e:Int)(he:e≠0):FnP cxW pvW 111 [.d (.int .i64 e)] [] none:=by
 refine⟨⟨_,Tryz.func111,by kernel_rfl,by kernel_rfl⟩,λO w σ vs hO hG kA kt hH kQ ki=>?_⟩;have v0:vs.getD 0 Go.undef= .int .i64 e:=(ki 0 _ rfl).int;have yk:vs= #[.int .i64 e]:=by rw[uS kQ,v0]
 rw[yk];refine(Ky e w).mono ?_;rintro en w' ⟨rfl,rfl⟩;exact⟨⟨rfl,rfl,rfl,Nat.le_refl _,λ_ _=>rfl⟩,e,he,rfl⟩
noncomputable def Kr:Cx:={cx with chg:=gX [(111,9)]}
theorem UB:bD Kr:=bo
theorem Ju:Kr.P.follows .mixedOrders=true:=mixed
theorem uq(z:aO)(s:Bs)(kind:Int)(hn:z.ak.length<=100000):FnP Kr pvW 63 [.undef,.agg ((aX z).map .d),.d (.str s),.d (.int .i64 kind)] [] (if (wfR z s kind).2=true then some (.agg ((cg (wfR z s kind).1).map .d),[])else none):=by
 cases h:(wfR z s kind).2 with
 |true =>
  rw[if_pos rfl];refine bt [] (fun|_=>[]) UB Ju Tryz.func63 ?_;conv=>whnf
  have hf:=ni z s kind hn;rw[h]at hf
  (refine⟨_,_,hf,?_⟩;conv=>whnf)
  exact cq rfl rfl rfl trivial
 |false =>
  rw[if_neg (by decide)];refine bt [] (fun|3=>[33333]|_=>[]) UB Ju Tryz.func63 ?_;conv=>whnf
  have hf:=ni z s kind hn;rw[h]at hf
  (refine⟨_,_,hf,?_⟩;conv=>whnf)
  have hF:=bR (cx' :=Kr) rfl rfl (ku 35 (by decide));exact⟨[5,8,9],_,hF,⟨rfl,rfl,rfl⟩,rfl⟩
noncomputable def BK:Cx:={cx with chg:=gX [(111,9),(110,9)]}
theorem UC:bD BK:=bo
theorem Jv:BK.P.follows .mixedOrders=true:=mixed
abbrev Se(z:aO):List (Nat×Blk):=(90005,.box [.d (.str z.af),.own 90020])::fU z
theorem Bx(z:aO)(s:Bs)(kind:Int)(hn:z.ak.length<=100000):FnP cxW pv0 110 [.agg [.d (.str z.af),.own 90020],.d (.str s),.d (.int .i64 kind)] (Se z) (some (.tuple [.agg ((cg (wfR z s kind).1).map .d),.d (.bool (wfR z s kind).2)],Se z)):=by
 refine bt [] (fun|_=>[]) tyW tj Tryz.func110 ?_;conv=>whnf
 (refine⟨_,yW z.ak (isF s kind) _ _ hn (λx _=>wT x s kind),rfl,?_⟩;conv=>whnf)
 have kN:=lM (isF s kind) z.ak;have ky:wfR z s kind=match z.ak.find? (isF s kind)with|some x=>(x.set,true)|none=>(pq,false):=rfl
 cases hi:z.ak.findIdx? (isF s kind)with
 |none =>
  rw[hi]at kN;rw[<- kN]at ky;conv=>whnf
  exact cq rfl (by rw[ky];rfl) (by rw[ky];rfl)
 |some k =>
  rw[hi]at kN;obtain⟨hJ,_⟩:=List.findIdx?_eq_some_iff_getElem.1 hi;obtain⟨x,hx⟩:∃x,z.ak[k]? =some x:=⟨_,au hJ⟩
  rw[<- kN]at ky;simp only[hx]at ky;conv=>whnf
  refine⟨aC k,by(show k<_;rw[aA];exact hJ),?_⟩;conv=>whnf
  refine⟨aw x,aM hx,?_⟩;conv=>whnf
  exact cq rfl (by rw[ky];rfl) (by rw[ky];rfl)
theorem bU{cx:Cx}{pv pv' :Int->Value}{f:FuncId}{args:List AV}{h:List (Nat×Blk)}{x:AV}{h' :List (Nat×Blk)}(hf:FnP cx pv f args h (some (x,h'))):FnP cx pv' f args h (some (x,h')):=hf
theorem rO(z:aO)(s:Bs)(kind:Int)(hn:z.ak.length<=100000):FnP BK pvW 63 [.undef,.agg [.d (.str z.af),.own 90020],.d (.str s),.d (.int .i64 kind)] (fU z) (if (wfR z s kind).2=true then some (.agg ((cg (wfR z s kind).1).map .d),fU z)else none):=by
 cases h:(wfR z s kind).2 with
 |true =>
  rw[if_pos rfl];refine bt [] (fun|1=>[33333,55555]|_=>[]) UC Jv Tryz.func63 ?_;conv=>whnf
  have hf:=bU (pv' :=pvW) (bR (cx' :=BK) rfl rfl (Bx z s kind hn));rw[h]at hf;refine⟨_,aq.name 5 90005 rfl rfl,?_⟩;conv=>whnf
  refine⟨[8],_,hf,⟨rfl,rfl,rfl⟩,?_⟩;conv=>whnf
  refine aL ?_;conv=>whnf
  exact cq rfl rfl rfl
 |false =>
  rw[if_neg (by decide)];refine bt [] (fun|1=>[33333,55555]|3=>[33333]|_=>[]) UC Jv Tryz.func63 ?_;conv=>whnf
  have hf:=bU (pv' :=pvW) (bR (cx' :=BK) rfl rfl (Bx z s kind hn));rw[h]at hf;refine⟨_,aq.name 5 90005 rfl rfl,?_⟩;conv=>whnf
  refine⟨[8],_,hf,⟨rfl,rfl,rfl⟩,?_⟩;conv=>whnf
  refine aL ?_;conv=>whnf
  have hF:=bR (cx' :=BK) rfl rfl (ku 35 (by decide));exact⟨[90005,8,9,100004,90020],_,hF,⟨rfl,rfl,rfl⟩,rfl⟩
def kq(s:cG):Datum:=match s.data with|d::_=>d|[]=>⟨[],0,0⟩
def eS(z:aO):aO:=bL z z.af 4 0 [⟨[],(pJ (kq (wfR z z.af 4).1).n).1,(kq (wfR z z.af 4).1).m⟩]
def lW(since aN:Int)(v:aO):Option aO :=
 if (wfR v v.af 7).2=true then
  if (((dv (wfR v v.af 7).1).2 != 0)|| !bf v)=true then none
  else if ((eV v).2 != 0)=true then none
  else if (((iK (eV v).1 (dv (wfR v v.af 7).1).1 since aN).2 != 0)|| !bf (iK (eV v).1 (dv (wfR v v.af 7).1).1 since aN).1)=true then none
  else some (iK (eV v).1 (dv (wfR v v.af 7).1).1 since aN).1
 else none
def db(since aN:Int)(z:aO):Option aO :=
 if (wfR z z.af 4).2=true then
  if ((pJ (kq (wfR z z.af 4).1).n).2 != 0)=true then none
  else lW since aN (eS z)
 else none
def nd(h:List (Nat×Blk)):Option aO->Option (AV×List (Nat×Blk))
 |some z=>some (.agg ((aX z).map .d),h)
 |none=>none
noncomputable def dx:Cx:={cx with chg:=gX [(131,9),(116,9),(181,9),(195,9),(185,9),(63,11),(111,9)],bld:=[50]}
theorem GJ:bD dx:=bo
theorem th:dx.P.follows .mixedOrders=true:=mixed
def gL(n:Nat):Code->Option Code
 | .region id ops dr=>(match Nat.beq id n with|true=>some (.region id ops dr)|false=>none)
 | .seq a b=>(match gL n a with|some c=>some (.seq c b)|none=>gL n b)
 |_=>none
theorem fV{cx:Cx}{fre:List Nat}{st canon:St}{X:St->Prop}(h:∃st',aq cx fre canon st' /\X st')(hw:aq cx fre st canon):∃st',aq cx fre st st' /\X st' :=by
 obtain⟨st',h1,h2⟩:=h;exact⟨st',hw.trans h1,h2⟩
theorem uY(s:cG):(dv s).1.length<=100000:=by
 unfold dv;split
 .rename_i h;split
  .have:=mw h;unfold cK;simp;omega
  .simp
 .simp
def slF:Nat->List Nat:=(fun|1=>[33333]|5=>[33333]|7=>[33333,55555]|10=>[33333]|11=>[33333,55555]|12=>[33333,55555]|13=>[90020]|14=>[33333]|15=>[55555]|18=>[55555]|17=>[33333]|20=>[33333]|_=>[])
noncomputable abbrev Bb:Code:=(Tryz.f120).body.getD .skip
noncomputable abbrev LG:List ResultVar:=(Tryz.f120).results.toList
theorem Lx(o:bz)(v:aO)(yn:v.ak.length<=90001) :
 vcp dx [100004] pvW 101 slF (λ_=>nd (bH o) (lW o.since o.aN v)=none) ((gL 12 Bb).getD .skip) (nI dx [100004] LG (nd (bH o) (lW o.since o.aN v)))
  ⟨[(0,.ptr 100034 0),(4,.ptr 100004 0),(6,.ptr 6 0)],fU v++(6,.box [.d (.str []),.nil 5])::bH o⟩:=by
 conv=>whnf
 refine⟨_,aq.refl _,?_⟩;conv=>whnf
 obtain⟨r,hr⟩:∃r,r=lW o.since o.aN v:=⟨_,rfl⟩
 rw[<- hr];unfold lW at hr;have hN:=rO v v.af 7 (by omega);obtain⟨s7,b7,h7⟩:∃a b,wfR v v.af 7=(a,b):=⟨_,_,rfl⟩
 rw[h7]at hN hr;dsimp only at hN hr;cases b7 with
 |false =>
  rw[if_neg (by decide)]at hr hN;subst hr;have hN:=bR (cx' :=dx) rfl rfl hN;exact⟨[6,100034,90032,90040,90041],_,hN,⟨rfl,rfl,rfl⟩,rfl⟩
 |true =>
 rw[if_pos rfl]at hN hr;have hN:=bR (cx' :=dx) rfl rfl hN;refine⟨[6,100034,90032,90040,90041],_,hN,⟨rfl,rfl,rfl⟩,?_⟩;conv=>whnf
 refine aL ?_;clear hN;conv=>whnf
 have hK:=wK s7;obtain⟨ks,ke,xz⟩:∃a b,dv s7=(a,b):=⟨_,_,rfl⟩
 rw[xz]at hK hr;dsimp only at hK hr
 (refine⟨_,_,hK,?_⟩;conv=>whnf)
 have hF:=bR (cx' :=dx) rfl rfl (ku 35 (by decide));have yb:ks.length<=100000:=by
  have e:ks=(dv s7).1:=by rw[xz]
  rw[e];exact uY s7
 cases kP:(ke != 0)with
 |true =>
  rw[kP,if_pos (by simp)]at hr;subst hr;conv=>whnf
  exact⟨[6,100004,100034,90032,90040,90041],_,hF,⟨rfl,rfl,rfl⟩,rfl⟩
 |false =>
 conv=>whnf
 (refine⟨_,_,jB v,?_⟩;conv=>whnf)
 cases hvv:bf v with
 |false =>
  rw[kP,hvv,if_pos (by simp)]at hr;subst hr;conv=>whnf
  exact⟨[6,100004,100034,90032,90040,90041],_,hF,⟨rfl,rfl,rfl⟩,rfl⟩
 |true =>
 rw[kP,hvv,if_neg (by simp)]at hr;conv=>whnf
 refine⟨_,aq.keep (sl:=[(0,.ptr 100034 0),(4,.ptr 100004 0),(6,.ptr 6 0),(12,.d (.slice 2 (ks.map cd)))]) (h:=(100004,.box ((aX v).map .d))::(6,.box [.d (.str []),.nil 5])::bH o),?_⟩;conv=>whnf
 have hC:=EI v;obtain⟨c,ce,hc⟩:∃a b,eV v=(a,b):=⟨_,_,rfl⟩
 rw[hc]at hC hr;dsimp only at hC hr
 (refine⟨_,_,hC,?_⟩;conv=>whnf)
 cases hce:(ce != 0)with
 |true =>
  rw[hce,if_pos (by simp)]at hr;subst hr;conv=>whnf
  exact⟨[6,100004,100034,90032,90040,90041],_,hF,⟨rfl,rfl,rfl⟩,rfl⟩
 |false =>
 rw[hce,if_neg (by simp)]at hr;conv=>whnf
 refine⟨_,aq.keep (sl:=[(0,.ptr 100034 0),(4,.ptr 100004 0),(6,.ptr 6 0),(12,.d (.slice 2 (ks.map cd)))]) (h:=(100004,.box ((aX c).map .d))::(6,.box [.d (.str []),.nil 5])::bH o),?_⟩;conv=>whnf
 have hL:=Mr c ks o.since o.aN yb;obtain⟨l,le,hl⟩:∃a b,iK c ks o.since o.aN=(a,b):=⟨_,_,rfl⟩
 rw[hl]at hL hr;dsimp only at hL hr
 (refine bV ?_;conv=>whnf)
 (refine⟨_,_,hL,?_⟩;conv=>whnf)
 cases hle:(le != 0)with
 |true =>
  rw[hle,if_pos (by simp)]at hr;subst hr;conv=>whnf
  exact⟨[6,100004,100034,90032,90040,90041],_,hF,⟨rfl,rfl,rfl⟩,rfl⟩
 |false =>
 conv=>whnf
 (refine⟨_,_,jB l,?_⟩;conv=>whnf)
 cases hvl:bf l with
 |false =>
  rw[hle,hvl,if_pos (by simp)]at hr;subst hr;conv=>whnf
  exact⟨[6,100004,100034,90032,90040,90041],_,hF,⟨rfl,rfl,rfl⟩,rfl⟩
 |true =>
 rw[hle,hvl,if_neg (by simp)]at hr;subst hr;conv=>whnf
 exact cq rfl rfl rfl
theorem Oe(o:bz)(y:aO)(yn:y.ak.length<=90000)(kd:(wfR y y.af 4).2=true->(wfR y y.af 4).1.data≠[]) :
 vcp dx [100004] pvW 101 slF (λ_=>nd (bH o) (db o.since o.aN y)=none) ((gL 7 Bb).getD .skip) (nI dx [100004] LG (nd (bH o) (db o.since o.aN y)))
  ⟨[(0,.ptr 100034 0),(4,.ptr 100004 0),(6,.ptr 6 0)],fU y++(6,.box [.d (.str []),.nil 5])::bH o⟩:=by
 conv=>whnf
 refine⟨_,aq.refl _,?_⟩;conv=>whnf
 obtain⟨r,hr⟩:∃r,r=db o.since o.aN y:=⟨_,rfl⟩
 rw[<- hr];unfold db at hr;have hN:=rO y y.af 4 (by omega);cases h1:(wfR y y.af 4).2 with
 |false =>
  rw[h1]at hN;rw[h1,if_neg (by decide)]at hr;subst hr;have hN:=bR (cx' :=dx) rfl rfl hN;exact⟨[6,100034,90032,90040,90041],_,hN,⟨rfl,rfl,rfl⟩,rfl⟩
 |true =>
 rw[h1,if_pos rfl]at hN;rw[h1,if_pos rfl]at hr;have hN:=bR (cx' :=dx) rfl rfl hN;refine⟨[6,100034,90032,90040,90041],_,hN,⟨rfl,rfl,rfl⟩,?_⟩;conv=>whnf
 refine aL ?_;conv=>whnf
 have kC:=kd h1;obtain⟨d0,dt,kr⟩:∃d t,(wfR y y.af 4).1.data=d::t:=by
  cases hc:(wfR y y.af 4).1.data with
  |nil=>exact absurd hc kC
  |cons d t=>exact⟨d,t,rfl⟩
 have xe:kq (wfR y y.af 4).1=d0:=by unfold kq;rw[kr]
 rw[xe]at hr;have kc:((wfR y y.af 4).1.data.map aQ)[(0:Int).toNat]? =some (aQ d0):=by rw[kr];rfl
 refine⟨Int.le_refl 0,aQ d0,kc,?_⟩;conv=>whnf
 obtain⟨nx,ne,xE⟩:∃a b,pJ d0.n=(a,b):=⟨_,_,rfl⟩
 have hA:=Eo d0.n;rw[xE]at hA hr;dsimp only at hA hr
 (refine⟨_,_,hA,?_⟩;conv=>whnf)
 refine aj (λh2=>?_) (λh2=>?_) <;> (rw[h2];conv=>whnf)
 .rw[if_pos h2]at hr;subst hr;have hF:=bR (cx' :=dx) rfl rfl (ku 35 (by decide));exact⟨[6,9,100004,90020,100034,90032,90040,90041],_,hF,⟨rfl,rfl,rfl⟩,rfl⟩
 rw[if_neg (by rw[h2];decide)]at hr;have kl:eS y=bL y y.af 4 0 [⟨[],nx,d0.m⟩]:=by unfold eS;rw[xe,xE]
 have hB:=bU (pv' :=pvW) (bR (cx' :=dx) rfl rfl (eG y.af 4 0 [⟨[],nx,d0.m⟩]));have kf:=bU (pv' :=pvW) (bR (cx' :=dx) rfl rfl (eU y y.af 4 0 [⟨[],nx,d0.m⟩] (by omega) (by simp)));have kx:=gW y y.af 4 0 [⟨[],nx,d0.m⟩];have kp:(bL y y.af 4 0 [⟨[],nx,d0.m⟩]).af=y.af:=rfl;rw[<- kl]at kf kx kp;generalize eS y=v at kf kx kp hr kl;refine⟨_,aq.keep (sl:=[(0,.ptr 100034 0),(4,.ptr 100004 0),(6,.ptr 6 0),(9,.ptr 9 0),(10,.d (.int .i64 nx))]) (h:=fU y++(6,.box [.d (.str []),.nil 5])::(9,.box ((cg (wfR y y.af 4).1).map .d))::bH o),?_⟩;conv=>whnf
 (refine cu ?_;conv=>whnf)
 refine⟨Int.le_refl 0,aQ d0,kc,?_⟩;conv=>whnf
 refine⟨by kernel_rfl,?_⟩;conv=>whnf
 refine⟨by kernel_rfl,?_⟩;conv=>whnf
 refine⟨[6,9,100004,90020,100034,90032,90040,90041],_,hB,⟨rfl,rfl,rfl⟩,?_⟩;conv=>whnf
 refine aL ?_;conv=>whnf
 refine⟨[6,9,100034,90032,90040,90041],_,kf,⟨rfl,rfl,rfl⟩,?_⟩;conv=>whnf
 refine aL ?_;conv=>whnf
 have ht:=Lx o v (by omega);conv at ht=>whnf
 rw[<- hr]at ht;exact fV ht (aq.keep)
abbrev TH(s:Bs)(kind aP:Int)(data:List Datum):D:= .fn 181 [] [.ptr [.str s],.ptr [.int .i64 kind],.ptr [.int .i64 aP],.ptr [.slice 3 (data.map aQ)]]
theorem rU(o:bz)(z:aO)(s:Bs)(kind aP:Int)(data:List Datum)(hz:bf z=true)(hd:data.length<=100000)(kd:(wfR (bL z s kind aP data) z.af 4).2=true->(wfR (bL z s kind aP data) z.af 4).1.data≠[]) :
 FnP dx pvW 120 [.ptr 100034 0,.agg ((aX z).map .d),.d (.slice 1 [[TH s kind aP data]])] (bH o) (nd (bH o) (db o.since o.aN (bL z s kind aP data))):=by
 refine bt [100004] slF GJ th Tryz.func120 ?_;conv=>whnf
 have ho:=bQ hz;have hC:=bU (pv' :=pvW) (bR (cx' :=dx) rfl rfl (km z (by have:=ho.few;omega) (λs hs=>by have:=rl hz s hs;omega)));refine⟨[4,6,100034,90032,90040,90041],_,hC,⟨rfl,rfl,rfl⟩,?_⟩;conv=>whnf
 refine aL ?_;conv=>whnf
 refine⟨Nat,λk=>⟨[(0,.ptr 100034 0),(4,.ptr 100004 0),(6,.ptr 6 0),(15,.d (.slice 1 [[TH s kind aP data]])),(16,.d (.int .i64 1)),(17,.d (.int .i64 k))],fU (match k with|0=>z|_=>bL z s kind aP data)++(6,.box [.d (.str []),.nil 5])::bH o⟩,
  λk=>k<=1,λk=>1-k,⟨0,Nat.zero_le _,(aq.name 4 100004 rfl rfl).trans (aq.keep)⟩,λk hk=>?_⟩
 rcases k with _|_|k
 case succ.succ=>omega
 .conv=>whnf
  refine⟨by decide,_,rfl,?_⟩;conv=>whnf
  have kf:=bU (pv' :=pvW) (bR (cx' :=dx) rfl rfl (eU z s kind aP data (by have:=ho.few;omega) hd));refine⟨[6,100034,90032,90040,90041],_,kf,⟨rfl,rfl,rfl⟩,?_⟩;conv=>whnf
  refine aL ?_;conv=>whnf
  exact⟨1,Nat.le_refl _,by decide,aq.keep⟩
 have hT:=Oe o (bL z s kind aP data) (by have:=gW z s kind aP data;have:=ho.few;omega) kd;conv at hT=>whnf
 conv=>whnf
 exact fV hT (aq.keep)
abbrev gBz(o:bz):List (Nat×Blk):=(100003,.box [.ptr 100034 0])::bH o
abbrev mX(l:List Int)(cut:Bs):AV:= .fn 185 [] [.d (.ptr [.slice 1 (l.map dj)]),.ptr 100003 0,.d (.ptr [.str cut])]
theorem Ip(o:bz)(v:aO)(yn:v.ak.length<=90001) :
 vcp dx [100004] pvW 101 slF (λ_=>nd (gBz o) (lW o.since o.aN v)=none) ((gL 12 Bb).getD .skip) (nI dx [100004] LG (nd (gBz o) (lW o.since o.aN v)))
  ⟨[(0,.ptr 100034 0),(4,.ptr 100004 0),(6,.ptr 6 0)],fU v++(6,.box [.d (.str []),.nil 5])::gBz o⟩:=by
 conv=>whnf
 refine⟨_,aq.refl _,?_⟩;conv=>whnf
 obtain⟨r,hr⟩:∃r,r=lW o.since o.aN v:=⟨_,rfl⟩
 rw[<- hr];unfold lW at hr;have hN:=rO v v.af 7 (by omega);obtain⟨s7,b7,h7⟩:∃a b,wfR v v.af 7=(a,b):=⟨_,_,rfl⟩
 rw[h7]at hN hr;dsimp only at hN hr;cases b7 with
 |false =>
  rw[if_neg (by decide)]at hr hN;subst hr;have hN:=bR (cx' :=dx) rfl rfl hN;exact⟨[6,100003,100034,90032,90040,90041],_,hN,⟨rfl,rfl,rfl⟩,rfl⟩
 |true =>
 rw[if_pos rfl]at hN hr;have hN:=bR (cx' :=dx) rfl rfl hN;refine⟨[6,100003,100034,90032,90040,90041],_,hN,⟨rfl,rfl,rfl⟩,?_⟩;conv=>whnf
 refine aL ?_;clear hN;conv=>whnf
 have hK:=wK s7;obtain⟨ks,ke,xz⟩:∃a b,dv s7=(a,b):=⟨_,_,rfl⟩
 rw[xz]at hK hr;dsimp only at hK hr
 (refine⟨_,_,hK,?_⟩;conv=>whnf)
 have hF:=bR (cx' :=dx) rfl rfl (ku 35 (by decide));have yb:ks.length<=100000:=by
  have e:ks=(dv s7).1:=by rw[xz]
  rw[e];exact uY s7
 cases kP:(ke != 0)with
 |true =>
  rw[kP,if_pos (by simp)]at hr;subst hr;conv=>whnf
  exact⟨[6,100004,100003,100034,90032,90040,90041],_,hF,⟨rfl,rfl,rfl⟩,rfl⟩
 |false =>
 conv=>whnf
 (refine⟨_,_,jB v,?_⟩;conv=>whnf)
 cases hvv:bf v with
 |false =>
  rw[kP,hvv,if_pos (by simp)]at hr;subst hr;conv=>whnf
  exact⟨[6,100004,100003,100034,90032,90040,90041],_,hF,⟨rfl,rfl,rfl⟩,rfl⟩
 |true =>
 rw[kP,hvv,if_neg (by simp)]at hr;conv=>whnf
 refine⟨_,aq.keep (sl:=[(0,.ptr 100034 0),(4,.ptr 100004 0),(6,.ptr 6 0),(12,.d (.slice 2 (ks.map cd)))]) (h:=(100004,.box ((aX v).map .d))::(6,.box [.d (.str []),.nil 5])::gBz o),?_⟩;conv=>whnf
 have hC:=EI v;obtain⟨c,ce,hc⟩:∃a b,eV v=(a,b):=⟨_,_,rfl⟩
 rw[hc]at hC hr;dsimp only at hC hr
 (refine⟨_,_,hC,?_⟩;conv=>whnf)
 cases hce:(ce != 0)with
 |true =>
  rw[hce,if_pos (by simp)]at hr;subst hr;conv=>whnf
  exact⟨[6,100004,100003,100034,90032,90040,90041],_,hF,⟨rfl,rfl,rfl⟩,rfl⟩
 |false =>
 rw[hce,if_neg (by simp)]at hr;conv=>whnf
 refine⟨_,aq.keep (sl:=[(0,.ptr 100034 0),(4,.ptr 100004 0),(6,.ptr 6 0),(12,.d (.slice 2 (ks.map cd)))]) (h:=(100004,.box ((aX c).map .d))::(6,.box [.d (.str []),.nil 5])::gBz o),?_⟩;conv=>whnf
 have hL:=Mr c ks o.since o.aN yb;obtain⟨l,le,hl⟩:∃a b,iK c ks o.since o.aN=(a,b):=⟨_,_,rfl⟩
 rw[hl]at hL hr;dsimp only at hL hr
 (refine bV ?_;conv=>whnf)
 (refine⟨_,_,hL,?_⟩;conv=>whnf)
 cases hle:(le != 0)with
 |true =>
  rw[hle,if_pos (by simp)]at hr;subst hr;conv=>whnf
  exact⟨[6,100004,100003,100034,90032,90040,90041],_,hF,⟨rfl,rfl,rfl⟩,rfl⟩
 |false =>
 conv=>whnf
 (refine⟨_,_,jB l,?_⟩;conv=>whnf)
 cases hvl:bf l with
 |false =>
  rw[hle,hvl,if_pos (by simp)]at hr;subst hr;conv=>whnf
  exact⟨[6,100004,100003,100034,90032,90040,90041],_,hF,⟨rfl,rfl,rfl⟩,rfl⟩
 |true =>
 rw[hle,hvl,if_neg (by simp)]at hr;subst hr;conv=>whnf
 exact cq rfl rfl rfl
theorem qd(o:bz)(y:aO)(yn:y.ak.length<=90000)(kd:(wfR y y.af 4).2=true->(wfR y y.af 4).1.data≠[]) :
 vcp dx [100004] pvW 101 slF (λ_=>nd (gBz o) (db o.since o.aN y)=none) ((gL 7 Bb).getD .skip) (nI dx [100004] LG (nd (gBz o) (db o.since o.aN y)))
  ⟨[(0,.ptr 100034 0),(4,.ptr 100004 0),(6,.ptr 6 0)],fU y++(6,.box [.d (.str []),.nil 5])::gBz o⟩:=by
 conv=>whnf
 refine⟨_,aq.refl _,?_⟩;conv=>whnf
 obtain⟨r,hr⟩:∃r,r=db o.since o.aN y:=⟨_,rfl⟩
 rw[<- hr];unfold db at hr;have hN:=rO y y.af 4 (by omega);cases h1:(wfR y y.af 4).2 with
 |false =>
  rw[h1]at hN;rw[h1,if_neg (by decide)]at hr;subst hr;have hN:=bR (cx' :=dx) rfl rfl hN;exact⟨[6,100003,100034,90032,90040,90041],_,hN,⟨rfl,rfl,rfl⟩,rfl⟩
 |true =>
 rw[h1,if_pos rfl]at hN;rw[h1,if_pos rfl]at hr;have hN:=bR (cx' :=dx) rfl rfl hN;refine⟨[6,100003,100034,90032,90040,90041],_,hN,⟨rfl,rfl,rfl⟩,?_⟩;conv=>whnf
 refine aL ?_;conv=>whnf
 have kC:=kd h1;obtain⟨d0,dt,kr⟩:∃d t,(wfR y y.af 4).1.data=d::t:=by
  cases hc:(wfR y y.af 4).1.data with
  |nil=>exact absurd hc kC
  |cons d t=>exact⟨d,t,rfl⟩
 have xe:kq (wfR y y.af 4).1=d0:=by unfold kq;rw[kr]
 rw[xe]at hr;have kc:((wfR y y.af 4).1.data.map aQ)[(0:Int).toNat]? =some (aQ d0):=by rw[kr];rfl
 refine⟨Int.le_refl 0,aQ d0,kc,?_⟩;conv=>whnf
 obtain⟨nx,ne,xE⟩:∃a b,pJ d0.n=(a,b):=⟨_,_,rfl⟩
 have hA:=Eo d0.n;rw[xE]at hA hr;dsimp only at hA hr
 (refine⟨_,_,hA,?_⟩;conv=>whnf)
 refine aj (λh2=>?_) (λh2=>?_) <;> (rw[h2];conv=>whnf)
 .rw[if_pos h2]at hr;subst hr;have hF:=bR (cx' :=dx) rfl rfl (ku 35 (by decide));exact⟨[6,9,100004,90020,100003,100034,90032,90040,90041],_,hF,⟨rfl,rfl,rfl⟩,rfl⟩
 rw[if_neg (by rw[h2];decide)]at hr;have kl:eS y=bL y y.af 4 0 [⟨[],nx,d0.m⟩]:=by unfold eS;rw[xe,xE]
 have hB:=bU (pv' :=pvW) (bR (cx' :=dx) rfl rfl (eG y.af 4 0 [⟨[],nx,d0.m⟩]));have kf:=bU (pv' :=pvW) (bR (cx' :=dx) rfl rfl (eU y y.af 4 0 [⟨[],nx,d0.m⟩] (by omega) (by simp)));have kx:=gW y y.af 4 0 [⟨[],nx,d0.m⟩];have kp:(bL y y.af 4 0 [⟨[],nx,d0.m⟩]).af=y.af:=rfl;rw[<- kl]at kf kx kp;generalize eS y=v at kf kx kp hr kl;refine⟨_,aq.keep (sl:=[(0,.ptr 100034 0),(4,.ptr 100004 0),(6,.ptr 6 0),(9,.ptr 9 0),(10,.d (.int .i64 nx))]) (h:=fU y++(6,.box [.d (.str []),.nil 5])::(9,.box ((cg (wfR y y.af 4).1).map .d))::gBz o),?_⟩;conv=>whnf
 (refine cu ?_;conv=>whnf)
 refine⟨Int.le_refl 0,aQ d0,kc,?_⟩;conv=>whnf
 refine⟨by kernel_rfl,?_⟩;conv=>whnf
 refine⟨by kernel_rfl,?_⟩;conv=>whnf
 refine⟨[6,9,100004,90020,100003,100034,90032,90040,90041],_,hB,⟨rfl,rfl,rfl⟩,?_⟩;conv=>whnf
 refine aL ?_;conv=>whnf
 refine⟨[6,9,100003,100034,90032,90040,90041],_,kf,⟨rfl,rfl,rfl⟩,?_⟩;conv=>whnf
 refine aL ?_;conv=>whnf
 have ht:=Ip o v (by omega);conv at ht=>whnf
 rw[<- hr]at ht;exact fV ht (aq.keep)
def ZSm(z:aO):Prop:=z.ak.length<=20000/\ ∀s∈z.ak,s.set.data.length<=100000/\s.sigs.length<=100000
theorem iv(w:aZ)(aP:Int)(cut:Bs):∀(l:List Int) (z:aO),(di w aP cut l z).af=z.af
 |[],z=>rfl
 |n::t,z=>by
  show(di w aP cut t (nK w aP cut z n)).af=z.af
  rw[iv w aP cut t];unfold nK;split <;> rfl
def sy(p:Signed->Bool)(z:aO):aO:=⟨z.af,z.ak.filter λs=> !p s⟩
theorem QL(p:Signed->Bool)(z:aO):(sy p z).ak.length<=z.ak.length:=List.length_filter_le ..
abbrev woA(F:FuncId)(x:bA):AV:= .fn 195 [] [.d (.ptr [.fn F [] [.ptr (bj x)]])]
theorem Lt(o:bz)(z:aO)(s:Bs)(c:Int)(f:Int)(d:List Datum)(cut:Bs)(l:List Int)(hz:ZSm z)(hh:∀n∈l,bJ o.w n=true)(hl:l.length<=1000)(hd:d.length<=100000)(kd:(wfR (di o.w o.aP cut l (bL z s c f d)) z.af 4).2=true->(wfR (di o.w o.aP cut l (bL z s c f d)) z.af 4).1.data≠[]) :
 FnP dx pvW 120 [.ptr 100034 0,.agg ((aX z).map .d),.own 76] ((76,.eF 177 1 [[ll s c f d],[mX l cut]])::gBz o) (nd (gBz o) (db o.since o.aN (di o.w o.aP cut l (bL z s c f d)))):=by
 refine bt [100004] slF GJ th Tryz.func120 ?_;conv=>whnf
 have hC:=bU (pv' :=pvW) (bR (cx' :=dx) rfl rfl (km z (by have:=hz.1;omega) hz.2));refine⟨[4,6,76,100003,100034,90032,90040,90041],_,hC,⟨rfl,rfl,rfl⟩,?_⟩;conv=>whnf
 refine aL ?_;conv=>whnf
 have kf:=bU (pv' :=pvW) (bR (cx' :=dx) rfl rfl (eU z s c f d (by have:=hz.1;omega) hd));have kj:=gW z s c f d;have kI:(bL z s c f d).af=z.af:=rfl;generalize kM:bL z s c f d=z1 at kf kj kI kd ⊢;have kz:=bU (pv' :=pvW) (bR (cx' :=dx) rfl rfl (rG o cut l z1 hh hl (by have:=hz.1;omega)));have kx:=pf o.w o.aP cut l z1;have kp:(di o.w o.aP cut l z1).af=z1.af:=iv ..;generalize kT:di o.w o.aP cut l z1=z2 at kz kx kp kd ⊢
 refine⟨Nat,λk=>⟨[(0,.ptr 100034 0),(4,.ptr 100004 0),(6,.ptr 6 0),(15,.own 76),(16,.d (.int .i64 2)),(17,.d (.int .i64 k))],fU (match k with|0=>z|1=>z1|_=>z2)++(6,.box [.d (.str []),.nil 5])::(76,.eF 177 1 [[ll s c f d],[mX l cut]])::gBz o⟩,
  λk=>k<=2,λk=>2-k,⟨0,Nat.zero_le _,(aq.name 4 100004 rfl rfl).trans (aq.keep)⟩,λk hk=>?_⟩
 rcases k with _|_|_|k
 case succ.succ.succ=>omega
 .conv=>whnf
  refine⟨by decide,bB rfl,?_⟩;conv=>whnf
  refine⟨_,rfl,?_⟩;conv=>whnf
  refine⟨[6,76,100003,100034,90032,90040,90041],_,kf,⟨by kernel_rfl,by kernel_rfl,by kernel_rfl⟩,?_⟩;conv=>whnf
  refine aL ?_;conv=>whnf
  exact⟨1,by decide,by(show 2-1<2-0;omega),aq.keep⟩
 .conv=>whnf
  refine⟨by decide,bB rfl,?_⟩;conv=>whnf
  refine⟨_,rfl,?_⟩;conv=>whnf
  refine⟨[6,76],_,kz,⟨by kernel_rfl,by kernel_rfl,by kernel_rfl⟩,?_⟩;conv=>whnf
  refine aL ?_;conv=>whnf
  exact⟨2,by decide,by(show 2-2<2-1;omega),aq.keep⟩
 have hT:=qd o z2 (by have:=hz.1;omega) (by rw[kp,kI];exact kd);conv at hT=>whnf
 conv=>whnf
 exact fV hT (aq.keep)
end Go.Proofs.YtodofogcincleaaGreatDoor
namespace NQ
open Go Go.RowKit
theorem FnP.RJ{cx:Cx}{pv:Int->Value}{f:FuncId}{args:List AV}{x y:AV}{h' :List (Nat×Blk)}(s:Nat)(h:FnP cx pv f args [] (some (x,h')))(e1:((⟨[(0,x)],h'⟩:St).freeze s).get 0=y)(e2:((⟨[(0,x)],h'⟩:St).freeze s).heap=[]) :
 FnP cx pv f args [] (some (y,[])):=by
 refine⟨h.1,λO w σ vs hO hG kA kt hH kQ ki=>(h.2 O w σ vs hO hG kA kt hH kQ ki).mono λen w' =>?_⟩;rintro⟨hf,u,σ',rfl,hh,_,hr⟩;have yF:∀b,¬dM [] σ b:=λb ⟨s,hl,_⟩=>by simp[live,find]at hl
 let E:Env:=⟨λb=>dM [] σ b\/w.heap.size<=b,O,w,1,λ_=>none,[]⟩
 have hs:Sim cx E ⟨[(0,x)],h'⟩ {tmps:= #[u],defers:=[]} w' :=by
  refine⟨σ',⟨hf,λb hb=> .inr hb,λb hb hF=>?_,rfl,rfl,λt=>?_,hh,hG,λg cells hg=>⟨λhF=>?_,(kA g cells hg).1⟩,λq0 B hB=>by cases hB⟩⟩
  .rcases hF with hF|hF
   .exact yF b hF
   .have:=hO b hb;omega
  .cases t with
   |zero=>exact hr
   |succ t=>exact .undef _
  .rcases hF with hF|hF
   .exact yF g hF
   .have:=(hG g cells hg).1;omega
 obtain⟨τ,h2⟩:=hs.freeze s;refine⟨hf,u,τ,rfl,?_,λs hs=>by simp[cS]at hs,?_⟩
 .have:=h2.holds;rw[e2]at this;exact this
 .have:=h2.aV 0;rw[e1,e2]at this;exact this
theorem FnP.xv{cx:Cx}{pv:Int->Value}{f:FuncId}{args kR:List AV}{h:List (Nat×Blk)}{out:Option (AV×List (Nat×Blk))}(hf:FnP cx pv f kR h out)(e:kR=args.map dn2):FnP cx pv f args h out:=by
 subst e;refine⟨hf.1,λO w σ vs hO hG kA kt hH kQ ki=>hf.2 O w σ vs hO hG kA kt hH (by rw[aA];exact kQ) λj c hj=>?_⟩;rw[bc]at hj;cases hc:args[j]? with
 |none=>rw[hc]at hj;cases hj
 |some c' =>rw[hc]at hj;cases hj;exact xg (ki j c' hc)
end NQ
namespace Go.Proofs.YtodofogcincleaaGreatDoor
open NQ Go.RowKit
theorem MI(z:aO)(hn:z.ak.length<=100000)(hs:∀s∈z.ak,s.set.data.length<=100000/\s.sigs.length<=100000):NQ.Fn EY 131 [.agg (aX z)] (.agg ((aX z).map .d)) [] :=
 jo (FnP.RJ 90020 (km z hn hs) rfl rfl)
def DW(o:bz)(host:Int)(z:aO):bz:={o with aF:=o.aF++[⟨host,z⟩]}
noncomputable def BL:Cx:={cx with bld:=[15]}
theorem Rq:bD BL:=bo
theorem BZ:BL.P.follows .mixedOrders=true:=mixed
theorem qp(o:bz)(host:Int)(z:aO)(hz:ZSm z)(hp:o.aF.length<=100000):FnP BL pvW 114 [.ptr 100034 0,.d (.int .i64 host),.agg ((aX z).map .d)] (bH o) (some (.tuple [],bH (DW o host z))):=by
 refine bt [] (fun|_=>[]) Rq BZ Tryz.func114 ?_;conv=>whnf
 (refine bV ?_;conv=>whnf)
 (refine⟨_,_,MI z (by have:=hz.1;omega) hz.2,?_⟩;conv=>whnf)
 refine⟨by simp;omega,by simp;omega,?_⟩;conv=>whnf
 have e:(o.aF.map aR)++[[.int .i64 host,.str z.af,.slice 5 (z.ak.map aw)]]=(DW o host z).aF.map aR:=by
  unfold DW;rw[List.map_append];rfl
 exact .inl ⟨[],aq.keep trivial ⟨⟨rfl,rfl⟩,⟨rfl,rfl⟩,⟨congrArg (λr=>some (Blk.row 45 3 r)) e,rfl⟩,⟨rfl,rfl⟩,trivial⟩,rfl⟩
noncomputable def yM:Cx:={cx with chg:=gX [(114,9)],bld:=[15]}
theorem UD:bD yM:=bo
theorem Jw:yM.P.follows .mixedOrders=true:=mixed
theorem Gz(o:bz)(host:Int)(af:Bs)(hp:o.aF.length<=100000):FnP yM pvW 122 [.ptr 100034 0,.d (.int .i64 host),.d (.str af)] (bH o) (some (.tuple [],bH (DW o host ⟨af,[]⟩))):=by
 refine bt [] (fun|_=>[33333]) UD Jw Tryz.func122 ?_;conv=>whnf
 have hP:=FnP.xv (args:=[.ptr 100034 0,.d (.int .i64 host),.agg [.d (.str af),.nil 5]]) (bR (cx' :=yM) rfl rfl (qp o host ⟨af,[]⟩ ⟨by simp,by simp⟩ hp)) rfl;refine⟨[],_,hP,⟨rfl,rfl,rfl⟩,?_⟩;conv=>whnf
 refine aL ?_;conv=>whnf
 exact .inl ⟨[],aq.keep trivial,rfl⟩
theorem yg(k:cR):FnP BL pv0 123 [.agg ((cd k).map .d)] [] (some (.own 90050,[(90050,.row 70 3 [aQ ⟨[],k.n,k.alg⟩])])):=by
 refine bt [] (fun|_=>[]) Rq BZ Tryz.func123 ?_;conv=>whnf
 exact gz (aq.name 8 90050 rfl rfl) rfl rfl rfl
theorem oP(k:cR):FnP BL pv0 123 [.agg ((cd k).map .d)] [] (some (.d (.slice 3 [aQ ⟨[],k.n,k.alg⟩]),[])):=FnP.RJ 90050 (yg k) rfl rfl
theorem FA(o:bz)(cut:Bs)(l:List Int):FnP BL pv0 118 [.ptr 100034 0,.d (.str cut),.d (.slice 1 (l.map dj))] (bH o) (some (.fn 185 [] [.d (.ptr [.slice 1 (l.map dj)]),.ptr 90003 0,.d (.ptr [.str cut])],(90003,.box [.ptr 100034 0])::bH o)):=by
 refine bt [] (fun|1=>[4,5]|_=>[]) Rq BZ Tryz.func118 ?_;conv=>whnf
 exact gz (aq.name 3 90003 rfl rfl) rfl rfl rfl
def bT(z:aO)(l:List ao):List ao:=(l.filter λp=>p.ah.af==z.af).map λp=>⟨p.host,z⟩
def dL(z:aO)(l:List Int):List ao:=l.map λn=>⟨n,z⟩
def bW(g:List (Bs×List Int))(a:Bs):List Int:=(bG a g).getD []
theorem uK(a:Bs):∀g:List (Bs×List Int),bG a (hZ g)=(bG a g).map λl=> .slice 1 (l.map dj)
 |[]=>rfl
 |(k,l)::t=>by
  have:=uK a t;show(if a=k then _ else bG a (hZ t))=Option.map _ (if a=k then _ else bG a t)
  rw[this];split <;> rfl
def aS(o:bz)(z:aO):bz:={o with aF:=o.aF++bT z o.w.ai++dL z (bW o.got z.af)}
theorem kH(o:bz)(z:aO)(hz:ZSm z)(hn:o.w.ai.length<=1000)(hp:o.aF.length<=10000)(hg:(bW o.got z.af).length<=1000):FnP yM pvW 119 [.ptr 100034 0,.agg ((aX z).map .d)] (bH o) (some (.tuple [],bH (aS o z))):=by
 refine bt [] (fun|5=>[33333]|10=>[33333]|_=>[]) UD Jw Tryz.func119 ?_;conv=>whnf
 refine⟨Nat×List ao,λq=>⟨[(0,.ptr 100034 0),(3,.ptr 3 0),(12,.d (.slice 3 (o.w.ai.map aR))),(13,.d (.int .i64 ((o.w.ai.map aR).length:Int))),(14,.d (.int .i64 q.1))],(3,.box ((aX z).map .d))::bH {o with aF:=q.2}⟩,
  λq=>q.1<=o.w.ai.length/\q.2++bT z (o.w.ai.drop q.1)=o.aF++bT z o.w.ai/\q.2.length<=o.aF.length+q.1,λq=>o.w.ai.length-q.1,⟨(0,o.aF),⟨Nat.zero_le _,rfl,Nat.le_refl _⟩,aq.keep⟩,?_⟩
 rintro⟨k,ps⟩ ⟨hk,hs,hl⟩;dsimp only at hk hs hl;conv=>whnf
 refine aj (λh1=>?_) (λh1=>?_) <;> (rw[h1];conv=>whnf)
 .have hJ:k<o.w.ai.length:=by simp at h1;omega
  obtain⟨p,kh⟩:∃p,o.w.ai[k]? =some p:=⟨_,au hJ⟩
  have hd:bT z (o.w.ai.drop k)=(if (p.ah.af==z.af)=true then[⟨p.host,z⟩]else[])++bT z (o.w.ai.drop (k+1)):=by
   rw[drop_cons kh];unfold bT;rw[List.filter_cons];split <;> rfl
  rw[hd, <- List.append_assoc]at hs;refine⟨aC k,aR p,aM kh,?_⟩;conv=>whnf
  refine aj (λh2=>?_) (λh2=>?_) <;> (rw[h2];conv=>whnf)
  .rw[if_pos (show(p.ah.af==z.af)=true from h2)]at hs;have hP:=bR (cx' :=yM) rfl rfl (qp {o with aF:=ps} p.host z hz (by dsimp only;omega));refine⟨[3,5],_,hP,⟨rfl,rfl,rfl⟩,?_⟩;conv=>whnf
   refine aL ?_;conv=>whnf
   exact⟨(k+1,ps++[⟨p.host,z⟩]),⟨hJ,hs,by simp;omega⟩,by(show o.w.ai.length-(k+1)<o.w.ai.length-k;omega),aq.keep ⟨ae,ae,ae,ae,⟨ax (k:=k) (by omega),rfl⟩,trivial⟩⟩
  .rw[if_neg (show ¬(p.ah.af==z.af)=true by rw[h2];decide),List.append_nil]at hs;exact⟨(k+1,ps),⟨hJ,hs,by dsimp only;omega⟩,by(show o.w.ai.length-(k+1)<o.w.ai.length-k;omega),aq.keep ⟨ae,ae,ae,ae,⟨ax (k:=k) (by omega),rfl⟩,trivial⟩⟩
 .obtain rfl:k=o.w.ai.length:=by simp at h1;omega
  rw[List.drop_length]at hs;have hs:ps=o.aF++bT z o.w.ai:=by rw[<- hs];exact(List.append_nil _).symm
  subst hs
  (refine bV ?_;conv=>whnf)
  have kE:=uK z.af o.got;have kb:bW o.got z.af=(bG z.af o.got).getD []:=rfl;cases hf:bG z.af o.got with
  |none =>
   rw[hf]at kE kb;rw[show bG z.af (hZ o.got)=none from kE];conv=>whnf
   have e:(o.aF++bT z o.w.ai:List ao)=(aS o z).aF:=by unfold aS;rw[kb];simp[dL]
   refine⟨Unit,λ_=>⟨[(37,.d (.int .i64 0)),(38,.d (.int .i64 0))],bH {o with aF:=o.aF++bT z o.w.ai}⟩,λ_=>True,λ_=>0,⟨(),trivial,aq.keep⟩,λ_ _=>?_⟩;conv=>whnf
   refine .inl ⟨[],aq.keep trivial ⟨⟨rfl,rfl⟩,⟨rfl,rfl⟩,⟨congrArg (λr:List ao=>some (Blk.row 45 3 (r.map aR))) e,rfl⟩,⟨rfl,rfl⟩,trivial⟩,rfl⟩
  |some l =>
   rw[hf]at kE kb;have kb:bW o.got z.af=l:=kb;rw[kb]at hg;rw[show bG z.af (hZ o.got)=some (.slice 1 (l.map dj))from kE];conv=>whnf
   refine⟨Nat,λk=>⟨[(0,.ptr 100034 0),(3,.ptr 3 0),(36,.d (.slice 1 (l.map dj))),(37,.d (.int .i64 ((l.map dj).length:Int))),(38,.d (.int .i64 k))],(3,.box ((aX z).map .d))::bH {o with aF:=o.aF++bT z o.w.ai++dL z (l.take k)}⟩,
    λk=>k<=l.length,λk=>l.length-k,⟨0,Nat.zero_le _,aq.keep (by repeat' (first|exact trivial|refine⟨⟨rfl,rfl⟩,?_⟩)) ⟨⟨rfl,rfl⟩,⟨rfl,rfl⟩,⟨rfl,rfl⟩,⟨congrArg (λr:List ao=>some (Blk.row 45 3 (r.map aR))) (by simp[dL]),rfl⟩,⟨rfl,rfl⟩,trivial⟩⟩,λk hk=>?_⟩
   conv=>whnf
   refine aj (λh2=>?_) (λh2=>?_) <;> (rw[h2];conv=>whnf)
   .have hJ:k<l.length:=by simp at h2;omega
    obtain⟨n,kG⟩:∃n,l[k]? =some n:=⟨_,au hJ⟩
    refine⟨aC k,dj n,aM kG,?_⟩;conv=>whnf
    have hlen:(bT z o.w.ai).length<=o.w.ai.length:=by unfold bT;rw[aA];exact List.length_filter_le ..
    have hP:=bR (cx' :=yM) rfl rfl (qp {o with aF:=o.aF++bT z o.w.ai++dL z (l.take k)} n z hz (by simp[dL];omega));refine⟨[3],_,hP,⟨rfl,rfl,rfl⟩,?_⟩;conv=>whnf
    refine aL ?_;conv=>whnf
    have e:(o.aF++bT z o.w.ai++dL z (l.take k))++[⟨n,z⟩]=o.aF++bT z o.w.ai++dL z (l.take (k+1)):=by
     unfold dL;rw[List.take_add_one,kG];simp
    exact⟨k+1,hJ,by(show l.length-(k+1)<l.length-k;omega),aq.keep ⟨ae,ae,ae,ae,⟨ax (k:=k) (by omega),rfl⟩,trivial⟩ ⟨ae,ae,ae,⟨congrArg (λr:List ao=>some (Blk.row 45 3 (r.map aR))) e,rfl⟩,ae,trivial⟩⟩
   .obtain rfl:k=l.length:=by simp at h2;omega
    have e:(o.aF++bT z o.w.ai++dL z (l.take l.length):List ao)=(aS o z).aF:=by unfold aS;rw[kb,List.take_length]
    refine .inl ⟨[],aq.keep trivial ⟨⟨rfl,rfl⟩,⟨rfl,rfl⟩,⟨congrArg (λr:List ao=>some (Blk.row 45 3 (r.map aR))) e,rfl⟩,⟨rfl,rfl⟩,trivial⟩,rfl⟩
def jO(w:aZ)(g:List (Bs×List Int))(p:ao):Bool:=(decide ((p.ah.ak.length:Int)>0)&& !w.ai.any (fb p.host p.ah.af))&& !(bW g p.ah.af).contains p.host
def kv(w:aZ)(g:List (Bs×List Int))(p:ao):List (Bs×List Int):=if jO w g p=true then cM p.ah.af (bW g p.ah.af++[p.host]) g else g
def dE(w:aZ)(g:List (Bs×List Int))(l:List ao):List (Bs×List Int):=l.foldl (kv w) g
theorem vT{w:aZ}{g:List (Bs×List Int)}{l:List ao}{k:Nat}{p:ao}(h:l[k]? =some p):dE w g (l.take (k+1))=kv w (dE w g (l.take k)) p:=by
 unfold dE;rw[List.take_add_one,h,List.foldl_append];rfl
theorem Dd(a:Bs)(l:List Int):∀g:List (Bs×List Int),cM a (D.slice 1 (l.map dj)) (hZ g)=hZ (cM a l g)
 |[]=>rfl
 |(k,x)::t=>by
  have:=Dd a l t;show(if a=k then _ else(k,_)::cM a _ (hZ t))=hZ (if a=k then(k,l)::t else(k,x)::cM a l t)
  rw[this];split <;> rfl
theorem Bc(a:Bs):∀m:List (List UInt8×D),bG a (amD m)=(bG a m).map .d
 |[]=>rfl
 |(k,x)::t=>by
  have:=Bc a t;show(if a=k then _ else bG a (amD t))=Option.map _ (if a=k then _ else bG a t)
  rw[this];split <;> rfl
theorem Ji(a:Bs)(s:Nat)(x:D):∀m:List (List UInt8×D),(cM a (AV.own s) (amD m)).map (λq=>(q.1,iu s x q.2))=amD (cM a x m)
 |[]=>by
  show[(a,iu s x (AV.own s))]=[(a,AV.d x)]
  have:iu s x (AV.own s)= .d x:=by simp[iu]
  rw[this]
 |(k,y)::t=>by
  have:=Ji a s x t;show List.map _ (if a=k then(k,AV.own s)::amD t else(k,AV.d y)::cM a (AV.own s) (amD t))=amD (if a=k then(k,x)::t else(k,y)::cM a x t)
  split
  .have h1:iu s x (AV.own s)= .d x:=by simp[iu]
   rw[List.map_cons,h1];have:∀t:List (List UInt8×D),(amD t).map (λq=>(q.1,iu s x q.2))=amD t:=λt=>by
    unfold amD;rw[List.map_map];rfl
   rw[this];rfl
  .rw[List.map_cons,this];rfl
theorem IM(a:Bs)(s:Nat)(f:AV->Bool)(h1:f (.own s)=true)(h2:∀x,f (.d x)=true):∀m:List (List UInt8×D),(cM a (AV.own s) (amD m)).all (λq=>f q.2)=true
 |[]=>by
  show(f (AV.own s)&&true)=true
  rw[h1];rfl
 |(k,y)::t=>by
  have:=IM a s f h1 h2 t;have h3:∀t:List (List UInt8×D),(amD t).all (λq=>f q.2)=true:=λt=>by
   unfold amD;rw[List.all_map,aI];intro q _;exact h2 _
  show List.all (if a=k then(k,AV.own s)::amD t else(k,AV.d y)::cM a (AV.own s) (amD t)) _=true
  split
  .rw[List.all_cons,h1,h3];rfl
  .rw[List.all_cons,h2,this];rfl
def iH(o:bz):bz:=if o.aF=[]then o else{o with got:=dE o.w o.got o.aF,bp:=o.bp++[o.aF],aF:=[]}
noncomputable def tW:Cx:={cx with chg:=gX [(113,10)],bld:=[63,76]}
theorem UA:bD tW:=bo
theorem Jt:tW.P.follows .mixedOrders=true:=mixed
theorem Ae(o:bz)(hn:o.w.ai.length<=1000)(hp:o.aF.length<=100000)(hs:o.bp.length<=1000)(kg:∀k p,o.aF[k]? =some p->(bW (dE o.w o.got (o.aF.take k)) p.ah.af).length<=100000)
 (hz:∀p∈o.aF,p.ah.ak.length<=100000) (yZ:∀k p,o.aF[k]? =some p->jO o.w (dE o.w o.got (o.aF.take k)) p=true->bG p.ah.af (dE o.w o.got (o.aF.take k))=none) :
 FnP tW pvW 115 [.ptr 100034 0] (bH o) (some (.tuple [],bH (iH o))):=by
 refine bt [] (fun|5=>[33333,55555]|6=>[55555,66666]|8=>[55555,90040]|_=>[]) UA Jt Tryz.func115 ?_;conv=>whnf
 refine aj (λh0=>?_) (λh0=>?_) <;> (rw[h0];conv=>whnf)
 .have hl:o.aF=[]:=by simpa using h0
  have e:iH o=o:=by unfold iH;rw[if_pos hl]
  rw[e];exact .inl ⟨[],aq.keep trivial,rfl⟩
 have kC:o.aF≠[]:=by simpa using h0
 have e:iH o={o with got:=dE o.w o.got o.aF,bp:=o.bp++[o.aF],aF:=[]}:=by unfold iH;rw[if_neg kC]
 rw[e];refine⟨Nat,λk=>⟨[(0,.ptr 100034 0),(14,.own 90040),(15,.d (.int .i64 ((o.aF.map aR).length:Int))),(16,.d (.int .i64 k))],bH {o with got:=dE o.w o.got (o.aF.take k)}⟩,
  λk=>k<=o.aF.length,λk=>o.aF.length-k,⟨0,Nat.zero_le _,aq.keep⟩,λk hk=>?_⟩
 conv=>whnf
 refine aj (λh1=>?_) (λh1=>?_) <;> (rw[h1];conv=>whnf)
 .have hJ:k<o.aF.length:=by simp at h1;omega
  obtain⟨p,kh⟩:∃p,o.aF[k]? =some p:=⟨_,au hJ⟩
  have hQ:=vT (w:=o.w) (g:=o.got) kh;have xf :=kg k p kh;have xA :=yZ k p kh;have yK:=hz p (aD kh);generalize kO:dE o.w o.got (o.aF.take k)=g at hQ xf xA ⊢;refine⟨aC k,by(show k<_;rw[aA];exact hJ),?_⟩;conv=>whnf
  refine⟨aR p,aM kh,?_⟩;conv=>whnf
  refine⟨_,aq.keep (sl:=[(0,.ptr 100034 0),(14,.own 90040),(15,.d (.int .i64 ((o.aF.map aR).length:Int))),(16,.d (.int .i64 k)),(3,.ptr 3 0),(4,.d (.str p.ah.af))]) (h:=(3,.box ((aR p).map .d))::bH {o with got:=g}) (by repeat' (first|exact trivial|refine⟨⟨rfl,rfl⟩,?_⟩)) ⟨⟨rfl,rfl⟩,⟨rfl,rfl⟩,⟨congrArg (λg=>some (Blk.smap (hZ g))) kO,rfl⟩,⟨rfl,rfl⟩,⟨rfl,rfl⟩,trivial⟩,?_⟩;conv=>whnf
  (refine cu ?_;conv=>whnf)
  have ka:jO o.w g p=false->g=dE o.w o.got (o.aF.take (k+1)):=λh=>by rw[hQ];unfold kv;rw[if_neg (by rw[h];decide)]
  have hC:=bU (pv' :=pvW) (bR (cx' :=tW) rfl rfl (kZ o.w p.host p.ah.af (by omega)));have kE:=uK p.ah.af g;have kb:bW g p.ah.af=(bG p.ah.af g).getD []:=rfl;have hY:jO o.w g p=((decide ((p.ah.ak.length:Int)>0)&& !o.w.ai.any (fb p.host p.ah.af))&& !(bW g p.ah.af).contains p.host):=rfl;refine aj (λh2=>?_) (λh2=>?_) <;> (rw[h2];conv=>whnf)
  .have h2:decide ((p.ah.ak.length:Int)>0)=true:=by simpa using h2
   rw[h2]at hY;generalize o.w.ai.any (fb p.host p.ah.af)=b at hC hY;refine⟨[3,100034,90032,90040,90041],_,hC,⟨rfl,rfl,rfl⟩,?_⟩;conv=>whnf
   refine aL ?_;conv=>whnf
   cases b with
   |true =>
    have hM:=ka (by rw[hY];rfl);conv=>whnf
    exact⟨k+1,hJ,by(show o.aF.length-(k+1)<o.aF.length-k;omega),aq.keep ⟨ae,ae,ae,⟨ax (k:=k) (by omega),rfl⟩,trivial⟩ ⟨ae,⟨congrArg (λg=>some (Blk.smap (hZ g))) hM,rfl⟩,ae,ae,trivial⟩⟩
   |false =>
   conv=>whnf
   cases hf:bG p.ah.af g with
   |none =>
    rw[hf]at kE kb;rw[show bG p.ah.af (hZ g)=none from kE];conv=>whnf
    have kb:bW g p.ah.af=[]:=kb;rw[kb]at hY
    (refine⟨_,_,kX [] p.host (by simp),?_⟩;conv=>whnf)
    have hM:dE o.w o.got (o.aF.take (k+1))=cM p.ah.af [p.host] g:=by rw[hQ];unfold kv;rw[if_pos (by rw[hY];rfl),kb];rfl
    refine⟨_,(aq.keep (sl:=[(0,.ptr 100034 0),(14,.own 90040),(15,.d (.int .i64 ((o.aF.map aR).length:Int))),(16,.d (.int .i64 k)),(3,.ptr 3 0),(4,.d (.str p.ah.af))]) (h:=(3,.box ((aR p).map .d))::bH {o with got:=g})).trans (aK.OB 90032 (hZ g) rfl).toP,?_⟩;conv=>whnf
    (refine cu ?_;conv=>whnf)
    refine⟨none,by rw[Bc,kE];rfl,?_⟩;conv=>whnf
    repeat (refine cO ?_;conv=>whnf)
    refine⟨bB rfl,bB rfl,?_⟩;conv=>whnf
    repeat (refine cO ?_;conv=>whnf)
    have yR:(cM p.ah.af (AV.own 64) (amD (hZ g))).map (λq=>(q.1,iu 64 (.slice 1 [[.int .i64 p.host]]) q.2))=amD (hZ (dE o.w o.got (o.aF.take (k+1)))):=by
     rw[Ji,hM, <- Dd];rfl
    refine⟨k+1,hJ,by(show o.aF.length-(k+1)<o.aF.length-k;omega),?_⟩;refine aq.trans (b:=⟨[(0,.ptr 100034 0),(14,.own 90040),(15,.d (.int .i64 ((o.aF.map aR).length:Int))),(16,.d (.int .i64 ((k+1:Nat):Int)))],[(100034,.box (QG true {o with got:=g})),(90032,.dJ (cM p.ah.af (AV.own 64) (amD (hZ g)))),(64,.row 3 1 [[.int .i64 p.host]]),(90040,.row 45 3 (o.aF.map aR)),(90041,.row 40 1 (o.bp.map dC))]⟩) (aq.keep ⟨ae,ae,ae,⟨ax (k:=k) (by omega),rfl⟩,trivial⟩ ⟨ae,⟨rfl,IM _ _ _ rfl (λ_=>rfl) _⟩,ae,ae,ae,trivial⟩) ?_;refine aq.trans (aq.sn [64]) ?_
    refine aq.trans (aK.toP (aK.NS 90032 (hZ (dE o.w o.got (o.aF.take (k+1)))) ?_)) ?_
    .exact congrArg (λm=>some (Blk.dJ m)) yR
    .exact aq.keep
   |some l =>
    rw[hf]at kE kb;have kb:bW g p.ah.af=l:=kb;rw[show bG p.ah.af (hZ g)=some (.slice 1 (l.map dj))from kE];conv=>whnf
    rw[kb]at xf
    (refine⟨_,_,kX l p.host xf,?_⟩;conv=>whnf)
    cases hc:l.contains p.host with
    |false =>
     have:=xA (by rw[hY,kb,hc];rfl);rw[hf]at this;cases this
    |true =>
     have hM:=ka (by rw[hY,kb,hc];rfl);conv=>whnf
     exact⟨k+1,hJ,by(show o.aF.length-(k+1)<o.aF.length-k;omega),aq.keep ⟨ae,ae,ae,⟨ax (k:=k) (by omega),rfl⟩,trivial⟩ ⟨ae,⟨congrArg (λg=>some (Blk.smap (hZ g))) hM,rfl⟩,ae,ae,trivial⟩⟩
  .have h2:decide ((p.ah.ak.length:Int)>0)=false:=by simpa using h2
   have hM:=ka (by rw[hY,h2];rfl);exact⟨k+1,hJ,by(show o.aF.length-(k+1)<o.aF.length-k;omega),aq.keep ⟨ae,ae,ae,⟨ax (k:=k) (by omega),rfl⟩,trivial⟩ ⟨ae,⟨congrArg (λg=>some (Blk.smap (hZ g))) hM,rfl⟩,ae,ae,trivial⟩⟩
 .obtain rfl:k=o.aF.length:=by simp at h1;omega
  have xw:dE o.w o.got (o.aF.take o.aF.length)=dE o.w o.got o.aF:=by rw[List.take_length]
  refine⟨_,aq.keep (sl:=[(0,.ptr 100034 0)]) (h:=bH {o with got:=dE o.w o.got o.aF}) (by repeat' (first|exact trivial|refine⟨⟨rfl,rfl⟩,?_⟩)) ⟨⟨rfl,rfl⟩,⟨congrArg (λg=>some (Blk.smap (hZ g))) xw,rfl⟩,⟨rfl,rfl⟩,⟨rfl,rfl⟩,trivial⟩,?_⟩;conv=>whnf
  (refine bV ?_;conv=>whnf)
  refine⟨by simp;omega,by simp;omega,?_⟩;conv=>whnf
  have xo:(o.bp.map dC)++[[.slice 3 (o.aF.map aR)]]=(o.bp++[o.aF]).map dC:=by rw[List.map_append];rfl
  refine gz (aq.trans (b:=⟨[(0,.ptr 100034 0)],[(100034,.box ((bu o.w).map .d++[.d (.int .i64 o.since),.d (.int .i64 o.aN),.d (.str o.ah.af),.d (.slice 5 (o.ah.ak.map aw)),.d (.int .i64 o.aP),.omap 90032,.nil 3,.own 90041])),(90032,.smap (hZ (dE o.w o.got o.aF))),(90041,.row 40 1 ((o.bp++[o.aF]).map dC))]⟩) (aq.keep (by repeat' (first|exact trivial|refine⟨⟨rfl,rfl⟩,?_⟩)) ⟨⟨rfl,rfl⟩,⟨rfl,rfl⟩,⟨congrArg (λr=>some (Blk.row 40 1 r)) xo,rfl⟩,trivial⟩) (aq.jw 100034 13 90040 3 _ 45 3 rfl rfl rfl (by decide))) rfl rfl rfl
abbrev ue(a:Bs):Option (List Int)->List (Bs×List Int)
 |none=>[]
 |some l=>[(a,l)]
abbrev Cd(o:bz)(a:Bs):Option (List Int)->List (Nat×Blk)
 |none=>bH {o with got:=[]}
 |some l=>[(100034,.box (QG true o)),(90032,.dJ [(a,.own 90060)]),(90060,.row 3 1 (l.map dj)),(90040,.row 45 3 (o.aF.map aR)),(90041,.row 40 1 (o.bp.map dC))]
theorem yd(o:bz)(a:Bs)(hn:o.w.ai.length<=1000)(hp:o.aF.length<=1000)(hs:o.bp.length<=1000)(hg:o.got=[])(hz:∀p∈o.aF,p.ah.ak.length<=100000)(ha:∀p∈o.aF,p.ah.af=a) :
 FnP tW pvW 115 [.ptr 100034 0] (bH o) (some (.tuple [],bH (iH o))):=by
 refine bt [] (fun|5=>[33333,55555]|6=>[55555,66666]|8=>[55555,90040]|_=>[]) UA Jt Tryz.func115 ?_;conv=>whnf
 refine aj (λh0=>?_) (λh0=>?_) <;> (rw[h0];conv=>whnf)
 .have hl:o.aF=[]:=by simpa using h0
  have e:iH o=o:=by unfold iH;rw[if_pos hl]
  rw[e];exact .inl ⟨[],aq.keep trivial,rfl⟩
 have kC:o.aF≠[]:=by simpa using h0
 have e:iH o={o with got:=dE o.w [] o.aF,bp:=o.bp++[o.aF],aF:=[]}:=by unfold iH;rw[if_neg kC,hg]
 rw[e];refine⟨Nat×Option (List Int),λq=>⟨[(0,.ptr 100034 0),(14,.own 90040),(15,.d (.int .i64 ((o.aF.map aR).length:Int))),(16,.d (.int .i64 q.1))],Cd o a q.2⟩,
  λq=>q.1<=o.aF.length/\dE o.w [] (o.aF.take q.1)=ue a q.2/\(q.2.getD []).length<=q.1,λq=>o.aF.length-q.1,⟨(0,none),⟨Nat.zero_le _,rfl,Nat.le_refl _⟩,aq.keep (by repeat' (first|exact trivial|refine⟨⟨rfl,rfl⟩,?_⟩)) ⟨⟨rfl,rfl⟩,⟨congrArg (λg=>some (Blk.smap (hZ g))) hg,rfl⟩,⟨rfl,rfl⟩,⟨rfl,rfl⟩,trivial⟩⟩,?_⟩
 rintro⟨k,g⟩ ⟨hk,kO,kg⟩;dsimp only at hk kO kg;have yE:∀p,o.aF[k]? =some p->k<o.aF.length:=λp h=>(aB.1 h).1
 cases g with
 |none =>
  conv=>whnf
  refine aj (λh1=>?_) (λh1=>?_) <;> (rw[h1];conv=>whnf)
  .have hJ:k<o.aF.length:=by simp at h1;omega
   obtain⟨p,kh⟩:∃p,o.aF[k]? =some p:=⟨_,au hJ⟩
   have hQ:=vT (w:=o.w) (g:=[]) kh;rw[kO]at hQ;have yK:=hz p (aD kh);have xQ:=ha p (aD kh);subst xQ;refine⟨aC k,by(show k<_;rw[aA];exact hJ),?_⟩;conv=>whnf
   refine⟨aR p,aM kh,?_⟩;conv=>whnf
   refine⟨_,aq.keep (sl:=[(0,.ptr 100034 0),(14,.own 90040),(15,.d (.int .i64 ((o.aF.map aR).length:Int))),(16,.d (.int .i64 k)),(3,.ptr 3 0),(4,.d (.str p.ah.af))]) (h:=(3,.box ((aR p).map .d))::Cd o p.ah.af none),?_⟩;conv=>whnf
   (refine cu ?_;conv=>whnf)
   have ka:jO o.w [] p=false->dE o.w [] (o.aF.take (k+1))=ue p.ah.af none:=λh=>by rw[hQ];unfold kv;rw[if_neg (by rw[h];decide)]
   have hC:=bU (pv' :=pvW) (bR (cx' :=tW) rfl rfl (kZ o.w p.host p.ah.af (by omega)));have hY:jO o.w [] p=((decide ((p.ah.ak.length:Int)>0)&& !o.w.ai.any (fb p.host p.ah.af))&& !([]:List Int).contains p.host):=rfl;refine aj (λh2=>?_) (λh2=>?_) <;> (rw[h2];conv=>whnf)
   .have h2:decide ((p.ah.ak.length:Int)>0)=true:=by simpa using h2
    rw[h2]at hY;generalize o.w.ai.any (fb p.host p.ah.af)=b at hC hY;refine⟨[3,100034,90032,90040,90041],_,hC,⟨rfl,rfl,rfl⟩,?_⟩;conv=>whnf
    refine aL ?_;conv=>whnf
    cases b with
    |true =>
     have hM:=ka (by rw[hY];rfl);conv=>whnf
     exact⟨(k+1,none),⟨hJ,hM,Nat.zero_le _⟩,by(show o.aF.length-(k+1)<o.aF.length-k;omega),aq.keep ⟨ae,ae,ae,⟨ax (k:=k) (by omega),rfl⟩,trivial⟩⟩
    |false =>
    conv=>whnf
    (refine⟨_,_,kX [] p.host (by simp),?_⟩;conv=>whnf)
    have hM:dE o.w [] (o.aF.take (k+1))=ue p.ah.af (some [p.host]):=by rw[hQ];unfold kv;rw[if_pos (by rw[hY];rfl)];rfl
    refine⟨_,(aq.keep (sl:=[(0,.ptr 100034 0),(14,.own 90040),(15,.d (.int .i64 ((o.aF.map aR).length:Int))),(16,.d (.int .i64 k)),(3,.ptr 3 0),(4,.d (.str p.ah.af))]) (h:=(3,.box ((aR p).map .d))::Cd o p.ah.af none)).trans (aK.OB 90032 [] rfl).toP,?_⟩;conv=>whnf
    (refine cu ?_;conv=>whnf)
    refine⟨none,rfl,?_⟩;conv=>whnf
    repeat (refine cO ?_;conv=>whnf)
    refine⟨bB rfl,bB rfl,?_⟩;conv=>whnf
    repeat (refine cO ?_;conv=>whnf)
    refine⟨(k+1,some [p.host]),⟨hJ,hM,by(show 1<=k+1;omega)⟩,by(show o.aF.length-(k+1)<o.aF.length-k;omega),?_⟩;refine aq.trans (aq.name 64 90060 rfl rfl) ?_;exact aq.keep ⟨ae,ae,ae,⟨ax (k:=k) (by omega),rfl⟩,trivial⟩
   .have h2:decide ((p.ah.ak.length:Int)>0)=false:=by simpa using h2
    have hM:=ka (by rw[hY,h2];rfl);exact⟨(k+1,none),⟨hJ,hM,Nat.zero_le _⟩,by(show o.aF.length-(k+1)<o.aF.length-k;omega),aq.keep ⟨ae,ae,ae,⟨ax (k:=k) (by omega),rfl⟩,trivial⟩⟩
  .obtain rfl:k=o.aF.length:=by simp at h1;omega
   have xw:dE o.w [] o.aF=[]:=by rw[List.take_length]at kO;exact kO
   rw[xw];refine⟨_,aq.keep (sl:=[(0,.ptr 100034 0)]) (h:=bH {o with got:=[]}),?_⟩;conv=>whnf
   (refine bV ?_;conv=>whnf)
   refine⟨by simp;omega,by simp;omega,?_⟩;conv=>whnf
   have xo:(o.bp.map dC)++[[.slice 3 (o.aF.map aR)]]=(o.bp++[o.aF]).map dC:=by rw[List.map_append];rfl
   refine gz (aq.trans (b:=⟨[(0,.ptr 100034 0)],[(100034,.box ((bu o.w).map .d++[.d (.int .i64 o.since),.d (.int .i64 o.aN),.d (.str o.ah.af),.d (.slice 5 (o.ah.ak.map aw)),.d (.int .i64 o.aP),.omap 90032,.nil 3,.own 90041])),(90032,.smap []),(90041,.row 40 1 ((o.bp++[o.aF]).map dC))]⟩) (aq.keep (by repeat' (first|exact trivial|refine⟨⟨rfl,rfl⟩,?_⟩)) ⟨⟨rfl,rfl⟩,⟨rfl,rfl⟩,⟨congrArg (λr=>some (Blk.row 40 1 r)) xo,rfl⟩,trivial⟩) (aq.jw 100034 13 90040 3 _ 45 3 rfl rfl rfl (by decide))) rfl rfl rfl
 |some l =>
  have kx:l.length<=1000:=by have:l.length<=k:=kg;omega
  conv=>whnf
  refine aj (λh1=>?_) (λh1=>?_) <;> (rw[h1];conv=>whnf)
  .have hJ:k<o.aF.length:=by simp at h1;omega
   obtain⟨p,kh⟩:∃p,o.aF[k]? =some p:=⟨_,au hJ⟩
   have hQ:=vT (w:=o.w) (g:=[]) kh;rw[kO]at hQ;have yK:=hz p (aD kh);have xQ:=ha p (aD kh);subst xQ;have kb:bW (ue p.ah.af (some l)) p.ah.af=l:=by
    unfold bW;show Option.getD (if p.ah.af=p.ah.af then some l else none) []=l
    rw[if_pos rfl];rfl
   refine⟨aC k,by(show k<_;rw[aA];exact hJ),?_⟩;conv=>whnf
   refine⟨aR p,aM kh,?_⟩;conv=>whnf
   refine⟨_,aq.keep (sl:=[(0,.ptr 100034 0),(14,.own 90040),(15,.d (.int .i64 ((o.aF.map aR).length:Int))),(16,.d (.int .i64 k)),(3,.ptr 3 0),(4,.d (.str p.ah.af))]) (h:=(3,.box ((aR p).map .d))::Cd o p.ah.af (some l)),?_⟩;conv=>whnf
   (refine cu ?_;conv=>whnf)
   have ka:jO o.w (ue p.ah.af (some l)) p=false->dE o.w [] (o.aF.take (k+1))=ue p.ah.af (some l):=λh=>by rw[hQ];unfold kv;rw[if_neg (by rw[h];decide)]
   have hC:=bU (pv' :=pvW) (bR (cx' :=tW) rfl rfl (kZ o.w p.host p.ah.af (by omega)));have hY:jO o.w (ue p.ah.af (some l)) p=((decide ((p.ah.ak.length:Int)>0)&& !o.w.ai.any (fb p.host p.ah.af))&& !(bW (ue p.ah.af (some l)) p.ah.af).contains p.host):=rfl;rw[kb]at hY;have yy:bG p.ah.af [(p.ah.af,AV.own 90060)]=some (.own 90060):=if_pos rfl;refine aj (λh2=>?_) (λh2=>?_) <;> (rw[h2];conv=>whnf)
   .have h2:decide ((p.ah.ak.length:Int)>0)=true:=by simpa using h2
    rw[h2]at hY;generalize o.w.ai.any (fb p.host p.ah.af)=b at hC hY;refine⟨[3,100034,90032,90040,90041,90060],_,hC,⟨rfl,rfl,rfl⟩,?_⟩;conv=>whnf
    refine aL ?_;conv=>whnf
    cases b with
    |true =>
     have hM:=ka (by rw[hY];rfl);conv=>whnf
     exact⟨(k+1,some l),⟨hJ,hM,by(show l.length<=k+1;have:l.length<=k:=kg;omega)⟩,by(show o.aF.length-(k+1)<o.aF.length-k;omega),aq.keep ⟨ae,ae,ae,⟨ax (k:=k) (by omega),rfl⟩,trivial⟩⟩
    |false =>
    conv=>whnf
    refine⟨_,yy,?_⟩;conv=>whnf
    refine⟨_,kX l p.host (by omega),by kernel_rfl,?_⟩;conv=>whnf
    cases hc:l.contains p.host with
    |true =>
     have hM:=ka (by rw[hY,hc];rfl);conv=>whnf
     exact⟨(k+1,some l),⟨hJ,hM,by(show l.length<=k+1;have:l.length<=k:=kg;omega)⟩,by(show o.aF.length-(k+1)<o.aF.length-k;omega),aq.keep ⟨ae,ae,ae,⟨ax (k:=k) (by omega),rfl⟩,trivial⟩⟩
    |false =>
    conv=>whnf
    have hM:dE o.w [] (o.aF.take (k+1))=ue p.ah.af (some (l++[p.host])):=by
     rw[hQ];unfold kv;rw[if_pos (by rw[hY,hc];rfl),kb];show(if p.ah.af=p.ah.af then _ else _)=_
     rw[if_pos rfl]
    have xC:cM p.ah.af (AV.own 90060) [(p.ah.af,AV.undef)]=[(p.ah.af,AV.own 90060)]:=if_pos rfl;refine⟨_,aq.keep (sl:=[(0,.ptr 100034 0),(14,.own 90040),(15,.d (.int .i64 ((o.aF.map aR).length:Int))),(16,.d (.int .i64 k)),(3,.ptr 3 0),(4,.d (.str p.ah.af))]) (h:=(3,.box ((aR p).map .d))::Cd o p.ah.af (some l)),?_⟩;conv=>whnf
    (refine cu ?_;conv=>whnf)
    refine⟨_,yy,?_⟩;conv=>whnf
    repeat (refine cO ?_;conv=>whnf)
    refine⟨by simp;omega,by simp;omega,?_⟩;conv=>whnf
    repeat (refine cO ?_;conv=>whnf)
    have xO:(l.map dj)++[[.int .i64 p.host]]=(l++[p.host]).map dj:=by rw[List.map_append];rfl
    exact⟨(k+1,some (l++[p.host])),⟨hJ,hM,by(show(l++[p.host]).length<=k+1;have:l.length<=k:=kg;simp;omega)⟩,by(show o.aF.length-(k+1)<o.aF.length-k;omega),aq.keep ⟨ae,ae,ae,⟨ax (k:=k) (by omega),rfl⟩,trivial⟩ ⟨ae,⟨congrArg (λm=>some (Blk.dJ m)) xC,rfl⟩,⟨congrArg (λr=>some (Blk.row 3 1 r)) xO,rfl⟩,ae,ae,trivial⟩⟩
   .have h2:decide ((p.ah.ak.length:Int)>0)=false:=by simpa using h2
    have hM:=ka (by rw[hY,h2];rfl);exact⟨(k+1,some l),⟨hJ,hM,by(show l.length<=k+1;have:l.length<=k:=kg;omega)⟩,by(show o.aF.length-(k+1)<o.aF.length-k;omega),aq.keep ⟨ae,ae,ae,⟨ax (k:=k) (by omega),rfl⟩,trivial⟩⟩
  .obtain rfl:k=o.aF.length:=by simp at h1;omega
   have xw:dE o.w [] o.aF=[(a,l)]:=by rw[List.take_length]at kO;exact kO
   rw[xw];refine⟨_,aq.trans (aq.keep (sl:=[(0,.ptr 100034 0)]) (h:=Cd o a (some l))) (aq.sn [90060]),?_⟩;conv=>whnf
   (refine bV ?_;conv=>whnf)
   refine⟨by simp;omega,by simp;omega,?_⟩;conv=>whnf
   have xo:(o.bp.map dC)++[[.slice 3 (o.aF.map aR)]]=(o.bp++[o.aF]).map dC:=by rw[List.map_append];rfl
   refine gz (aq.trans (b:=⟨[(0,.ptr 100034 0)],[(100034,.box ((bu o.w).map .d++[.d (.int .i64 o.since),.d (.int .i64 o.aN),.d (.str o.ah.af),.d (.slice 5 (o.ah.ak.map aw)),.d (.int .i64 o.aP),.omap 90032,.nil 3,.own 90041])),(90032,.dJ (amD (hZ [(a,l)]))),(90041,.row 40 1 ((o.bp++[o.aF]).map dC))]⟩) (aq.keep (by repeat' (first|exact trivial|refine⟨⟨rfl,rfl⟩,?_⟩)) ⟨⟨rfl,rfl⟩,⟨rfl,rfl⟩,⟨congrArg (λr=>some (Blk.row 40 1 r)) xo,rfl⟩,trivial⟩) (aq.trans (aK.toP (aK.NS 90032 (hZ [(a,l)]) rfl)) (aq.jw 100034 13 90040 3 _ 45 3 rfl rfl rfl (by decide)))) rfl rfl rfl
end Go.Proofs.YtodofogcincleaaGreatDoor
namespace NQ
open Go Go.RowKit
theorem KE{cx:Cx}{pv:Int->Value}{f:FuncId}{e:TypeId}{sz s:Nat}{rows rows' :List (List D)}{fl fl' :Bool}{args:List D}(h:FnP cx pv f (.own s::args.map .d) [(s,.row e sz rows fl)] (some (.own s,[(s,.row e sz rows' fl')]))):FnR cx f true e sz rows fl args rows' :=by
 refine⟨h.1,λO w v vs xs hO hG kA hv h1 h2 h3 h4 h5 h6 h7=>?_⟩;have kj:∀{b:Blk} {x:Nat},live [(s,b)] x ↔ x=s:=λ{b x}=>cv
 have hH:∀{b:Blk} {τ:Nat->Value} {g:Nat},dM [(s,b)] τ g ↔ home (τ s)=some g:=λ{b τ g}=>by
  constructor
  .rintro⟨x,hx,e⟩;rw[kj.1 hx]at e;exact e
  .intro e;exact⟨s,kj.2 rfl,e⟩
 have hk:∀{b:Blk},bw w w O (Own (λb=>O b/\home v≠some b) (live [(s,b)]) λ_=>v):=λ{b}=>bw.less λb hb=>by
  rcases hb with hb|⟨x,_,e⟩
  .exact hb.1
  .exact hv b e
 refine(h.2 (λb=>O b/\home v≠some b) w (λ_=>v) (#[v]++vs) (λb hb=>hO b hb.1) hG (λg cells hg=>⟨λhb=>kA g cells hg hb.1,λhb=>kA g cells hg (hv g (hH.1 hb))⟩) (λb hb hh=>hb.2 (hH.1 hh)) ⟨λx b hb=>?_,λx y b hx hy _ _=>by rw[kj.1 hx,kj.1 hy]⟩ (by simp[h6,Nat.add_comm]) λj c hj=>?_).mono λen w' =>?_
 .have hx:x=s:=kj.1 (aH.2 ⟨b,hb⟩);subst hx;rw[bk]at hb;cases hb;refine⟨xs,h1,λb hb=>hH.2 hb,⟨h3,h2⟩,h4,λi r j d hi hj=>?_⟩;obtain⟨u,hu,hd⟩:=h5 i r j d hi hj;exact⟨u,hu,hd.mono hk⟩
 .rcases j with _|j
  .cases hj;have:(#[v]++vs).getD 0 Go.undef=v:=by simp[bM,Array.getElem?_append]
   rw[this];exact .own (σ:=λ_=>v) s (kj.2 rfl)
  .rw[List.getElem?_cons_succ,bc]at hj;cases hd:args[j]? with
   |none=>rw[hd]at hj;cases hj
   |some d =>
    rw[hd]at hj;cases hj;have hJ:j<vs.size:=by rw[h6];exact(aB.1 hd).1
    have:(#[v]++vs).getD (j+1) Go.undef=vs.getD j Go.undef:=by simp[Array.getElem?_append,bM]
    rw[this];exact .d _ _ ((h7 j d hd).mono hk)
 .rintro⟨hf,u,σ',rfl,yU,_,hr⟩;obtain⟨yp,q1,q2,q3,q4,q5⟩:=yU.blk s _ (bk ..);have hu:u=σ' s:=by generalize hz:σ' s=z;cases hr;exact hz
  subst hu;refine⟨σ' s,yp,rfl,hf.os,hf.tape,hf.output,hf.size,λk hk kC=>hf.block k λhh=>?_,λg hg=>?_,q1,q4,λi r j d hi hj=>?_⟩
  .rcases hh with hh|hh
   .exact kC (hH.1 hh)
   .omega
  .rcases q2 g hg with hh|hh
   .exact .inl (hH.1 hh)
   .exact .inr hh
  .obtain⟨u,hu,hd⟩:=q5 i r j d hi hj;refine⟨u,hu,hd.mono (bw.less λb hb=>?_)⟩;rcases hb with hb|hb
   .exact .inl hb
   .exact .inr ⟨s,kj.2 rfl,hb⟩
end NQ
namespace NQ
open Go
theorem FnR.UI{cx:Cx}{f:FuncId}{eB:Bool}{e:TypeId}{sz:Nat}{rows:List (List D)}{fl:Bool}{args:List D}{rows' :List (List D)}(h:FnR cx f eB e sz rows false args rows'):FnR cx f eB e sz rows fl args rows' :=⟨h.1,λO w v vs xs a b c d e' f' =>h.2 O w v vs xs a b c d e' (λh=>by cases h)⟩
end NQ
namespace Go.Proofs.YtodofogcincleaaGreatDoor
open NQ Go.RowKit
def dD:List Datum->List Datum
 |[]=>[]
 |[a]=>[a]
 |a::b::t=>if a=b then dD (b::t)else a::dD (b::t)
def mD(l:List Datum)(m:Nat):List Datum:=((List.range m).filter λj=>decide (j=0)|| !decide (l[j]? =l[j-1]?)).filterMap (l[·]?)
theorem Cz(l:List Datum)(m:Nat):mD l (m+1)=mD l m++(if decide (m=0)|| !decide (l[m]? =l[m-1]?)then l[m]?.toList else[]):=by
 unfold mD;rw[List.range_succ,List.filter_append,List.filterMap_append]
 congr 1
 by_cases h:(decide (m=0)|| !decide (l[m]? =l[m-1]?))=true
 .rw[if_pos h,List.filter_cons,if_pos h];cases hm:l[m]? <;> simp[hm]
 .rw[if_neg h,List.filter_cons,if_neg h];rfl
theorem Cy(a:Datum)(t:List Datum):∀m,mD (a::t) (m+1)=a::(((List.range m).filter λj=> !decide (t[j]? =(a::t)[j]?)).filterMap (t[·]?)):=by
 intro m;unfold mD;rw[List.range_succ_eq_map,List.filter_cons_of_pos (by simp),List.filterMap_cons_some (b:=a) (by simp),List.filter_map,List.filterMap_map]
 congr 1
theorem sW(a b:Datum):(a.text==b.text&&(a.n==b.n&&(a.m==b.m&&true)))=decide (a=b):=by
 cases a with|mk t n m =>
 cases b with|mk t' n' m' =>
 simp only[iG,Datum.mk.injEq];by_cases h1:t=t' <;> by_cases h2:n=n' <;> by_cases h3:m=m' <;> simp[h1,h2,h3]
theorem Pt(l:List Datum)(h:1<=l.length):mD l 1=l.take 1:=by
 match l,h with
 |a::t,_=>rfl
theorem EM{l:List Datum}{m:Nat}{a b:Datum}(ha:l[m]? =some a)(hb:l[m-1]? =some b)(h:a≠b):mD l (m+1)=mD l m++[a]:=by
 rw[Cz,ha,hb,if_pos (by simp[h])];rfl
theorem EN{l:List Datum}{m:Nat}{a b:Datum}(hm:1<=m)(ha:l[m]? =some a)(hb:l[m-1]? =some b)(h:a=b):mD l (m+1)=mD l m:=by
 rw[Cz,ha,hb,if_neg (by simp[h];omega),List.append_nil]
theorem py:∀l:List Datum,mD l l.length=dD l
 |[]=>rfl
 |[a]=>rfl
 |a::b::t=>by
  have ih:=py (b::t);show mD (a::b::t) (t.length+1+1)=_
  rw[List.length_cons]at ih;rw[Cy,List.range_succ_eq_map];rw[Cy]at ih;show _=if a=b then dD (b::t)else a::dD (b::t)
  have kV:List.filterMap (λx=>(b::t)[x]?) (List.filter (λj=> !decide ((b::t)[j]? =(a::b::t)[j]?)) (List.map Nat.succ (List.range t.length)))=List.filterMap (λx=>t[x]?) (List.filter (λj=> !decide (t[j]? =(b::t)[j]?)) (List.range t.length)):=by
   rw[List.filter_map,List.filterMap_map];rfl
  by_cases e:a=b
  .subst e;rw[if_pos rfl,List.filter_cons_of_neg (by simp),kV,ih]
  .rw[if_neg e,List.filter_cons_of_pos (by simpa using λh=>e h.symm),List.filterMap_cons_some (b:=b) (by simp),kV,ih]
noncomputable def PB:Cx:={cx with bld:=[777001]}
theorem Vk:bD PB:=bo
theorem SR:PB.P.follows .mixedOrders=true:=mixed
theorem ER(l:List Datum)(hl:l.length<=100000)(fl:Bool):FnR cx 126 true 70 3 (l.map aQ) fl [] ((dD l).map aQ):=by
 refine FnR.UI (TX (cx:=PB) rfl rfl (KE (pv:=pv0) (s:=90020) (fl' :=false) ?_));refine bt [] (fun|7=>[33333]|14=>[33333]|15=>[33333]|_=>[]) Vk SR Tryz.func126 ?_;conv=>whnf
 refine aj (λh1=>?_) (λh1=>?_) <;> (rw[h1];conv=>whnf)
 .have h2:l.length<2:=by simp at h1;omega
  have h3:dD l=l:=by
   match l,h2 with
   |[],_=>rfl
   |[a],_=>rfl
  rw[h3];exact cq rfl rfl rfl
 have h2:2<=l.length:=by simp at h1;omega
 refine⟨Nat,λk=>⟨[(0,.own 90020),(3,.d (.int .i64 k))],[(90020,.row 70 3 (l.map aQ))]⟩,λk=>1<=k/\k<=l.length/\mD l k=l.take k,λk=>l.length-k,
  ⟨1,⟨Nat.le_refl _,by omega,?_⟩,aq.keep ⟨ae,ae,trivial⟩⟩,?_⟩
 .exact Pt l (by omega)
 rintro k ⟨yB,hk,hc⟩;conv=>whnf
 refine aj (λh3=>?_) (λh3=>?_) <;> (rw[h3];conv=>whnf)
 .have hJ:k<l.length:=by simp at h3;omega
  obtain⟨a,ha⟩:∃a,l[k]? =some a:=⟨_,au hJ⟩
  obtain⟨b,hb⟩:∃b,l[k-1]? =some b:=⟨_,au (by omega)⟩
  have kL:∀q:Nat,1<=q->q<=100000->IntKind.i64.wrap ((q:Int)-1)=((q-1:Nat):Int):=λq h1 h2=>by
   rw[show((q:Int)-1)=((q-1:Nat):Int) by omega];exact wrap_i64 (by omega) (by omega)
  (refine bV ?_;conv=>whnf)
  refine⟨aC k,by(show k<_;rw[aA];exact hJ),?_⟩;conv=>whnf
  refine⟨aQ a,aM ha,?_⟩;conv=>whnf
  rw[kL k yB (by omega)];refine⟨aC _,by(show k-1<_;rw[aA];omega),?_⟩;conv=>whnf
  refine⟨aQ b,aM hb,?_⟩;conv=>whnf
  refine aj (λh4=>?_) (λh4=>?_) <;> (rw[h4];conv=>whnf)
  .have hY:a=b:=by rw[sW]at h4;exact of_decide_eq_true h4
   refine⟨aC k,by(show k<_;rw[aA];exact hJ),?_⟩;conv=>whnf
   refine⟨Nat×Nat×List Datum,λq=>⟨[(0,.own 90020),(3,.d (.int .i64 q.1)),(4,.tl 90020 3 k),(5,.d (.int .i64 q.2.1))],[(90020,.row 70 3 (q.2.2.map aQ))]⟩,
    λq=>(1<=q.2.1/\k+q.2.1<=l.length/\q.1<k+q.2.1)/\q.2.2.length=l.length/\q.2.2.take q.1=mD l (k+q.2.1)/\q.2.2.drop q.1=l.drop q.1,λq=>l.length-q.2.1,
    ⟨(k,1,l),⟨⟨Nat.le_refl _,by dsimp only;omega,by dsimp only;omega⟩,rfl,by dsimp only;rw[EN yB ha hb hY,hc],rfl⟩,aq.keep ⟨ae,ae,ae,ae,trivial⟩⟩,?_⟩
   rintro⟨kk,k2,R⟩ ⟨⟨yC,kP,yX⟩,hR,hT,hD⟩;dsimp only at yC kP yX hR hT hD;have kc:∀j,kk<=j->R[j]? =l[j]? :=λj hj=>by
    have:=congrArg (λq=>q[j-kk]?) hD;simpa [List.getElem?_drop,show kk+(j-kk)=j by omega] using this
   conv=>whnf
   refine aj (λh5=>?_) (λh5=>?_) <;> (rw[h5];conv=>whnf)
   .have xh:k+k2<l.length:=by simp[hR]at h5;omega
    obtain⟨x,hx⟩:∃x,l[k+k2]? =some x:=⟨_,au xh⟩
    obtain⟨y,hy⟩:∃y,l[k+k2-1]? =some y:=⟨_,au (by omega)⟩
    have yI :R[k+k2]? =some x:=by rw[kc _ (by omega)];exact hx
    have zg :R[k+(k2-1)]? =some y:=by rw[kc _ (by omega),show k+(k2-1)=k+k2-1 by omega];exact hy
    (refine bV ?_;conv=>whnf)
    refine⟨aC k2,by(show k+k2<_;rw[aA,hR];exact xh),?_⟩;conv=>whnf
    refine⟨aQ x,aM yI,?_⟩;conv=>whnf
    rw[kL k2 yC (by omega)];refine⟨aC _,by(show k+(k2-1)<_;rw[aA,hR];omega),?_⟩;conv=>whnf
    refine⟨aQ y,aM zg,?_⟩;conv=>whnf
    refine aj (λh6=>?_) (λh6=>?_) <;> (rw[h6];conv=>whnf)
    .have ym:x≠y:=by rw[sW]at h6;intro e;simp[e]at h6
     refine⟨aC k2,by(show k+k2<_;rw[aA,hR];exact xh),?_⟩;conv=>whnf
     refine⟨aQ x,aM yI,?_⟩;conv=>whnf
     refine⟨aC kk,by(show kk<_;rw[aA,hR];omega),?_⟩;conv=>whnf
     obtain⟨z,hz⟩:∃z,R[kk]? =some z:=⟨_,au (by omega)⟩
     refine⟨aQ z,aM hz,?_⟩;conv=>whnf
     refine⟨(kk+1,k2+1,R.set kk x),⟨⟨by dsimp only;omega,by dsimp only;omega,by dsimp only;omega⟩,by(show(R.set kk x).length=_;rw[List.length_set,hR]),?_,?_⟩,by(show l.length-(k2+1)<l.length-k2;omega),aq.keep ⟨ae,⟨ax (k:=kk) (by omega),rfl⟩,ae,⟨ax (k:=k2) (by omega),rfl⟩,trivial⟩ ⟨⟨congrArg (λr=>some (Blk.row 70 3 r)) (List.map_set (f:=aQ) (l:=R) (i:=kk) (a:=x)).symm,rfl⟩,trivial⟩⟩
     .show(R.set kk x).take (kk+1)=mD l (k+k2+1)
      rw[EM hx hy ym, <- hT,List.take_add_one,List.getElem?_set_self (by omega),List.take_set_of_le (Nat.le_refl _)];rfl
     .show(R.set kk x).drop (kk+1)=_
      rw[List.drop_set_of_lt (by omega), <- List.drop_drop, <- List.drop_drop,hD]
    .have ym:x=y:=by rw[sW]at h6;simpa using h6
     refine⟨(kk,k2+1,R),⟨⟨by dsimp only;omega,by dsimp only;omega,by dsimp only;omega⟩,hR,?_,hD⟩,by(show l.length-(k2+1)<l.length-k2;omega),aq.keep ⟨ae,ae,ae,⟨ax (k:=k2) (by omega),rfl⟩,trivial⟩⟩;show R.take kk=mD l (k+k2+1)
     rw[EN (by omega) hx hy ym,hT]
   .have xX:k+k2=l.length:=by simp[hR]at h5;omega
    rw[xX,py]at hT;refine⟨aC kk,by(show kk<_;rw[aA,hR];omega),?_⟩;conv=>whnf
    refine⟨by(show kk<_;rw[aA,hR];omega),?_⟩;conv=>whnf
    refine⟨aC kk,by(show kk<_;rw[List.length_append,List.length_take,List.length_replicate,aA,hR];omega),?_⟩;conv=>whnf
    have xk:∀z:List D,((R.map aQ).take kk++List.replicate ((R.map aQ).length-kk) z).take kk=(dD l).map aQ:=λz=>by
     rw[List.take_append_of_le_length (by rw[List.length_take,aA,hR];omega),List.take_take,Nat.min_self, <- List.map_take,hT]
    refine gz (aq.keep (sl:=[(2,.own 90020)]) (h:=[(90020,.row 70 3 ((dD l).map aQ))]) (by repeat' (first|exact trivial|refine⟨⟨rfl,rfl⟩,?_⟩)) ⟨⟨congrArg (λr=>some (Blk.row 70 3 r)) (xk _),rfl⟩,trivial⟩) rfl rfl rfl
  .have hY:a≠b:=by rw[sW]at h4;intro e;simp[e]at h4
   refine⟨k+1,⟨by omega,hJ,?_⟩,by(show l.length-(k+1)<l.length-k;omega),aq.keep ⟨ae,⟨ax (k:=k) (by omega),rfl⟩,trivial⟩⟩;rw[EM ha hb hY,hc,List.take_add_one,ha];rfl
 .obtain rfl:k=l.length:=by simp at h3;omega
  have h4:dD l=l:=by rw[<- py,hc,List.take_length]
  rw[h4];exact cq rfl rfl rfl
theorem Lu(o:bz)(z:aO)(s:Bs)(c:Int)(f:Int)(d:List Datum)(cut:Bs)(l:List Int)(hz:ZSm z)(hh:∀n∈l,bJ o.w n=true)(hl:l.length<=1000)(hd:d.length<=100000)(kd:(wfR (di o.w o.aP cut l (bL z s c f d)) z.af 4).2=true->(wfR (di o.w o.aP cut l (bL z s c f d)) z.af 4).1.data≠[]) :
 FnP dx pvW 120 [.ptr 100034 0,.agg ((aX z).map .d),.own 84] ((84,.eF 177 1 [[ll s c f d],[mX l cut]])::gBz o) (nd (gBz o) (db o.since o.aN (di o.w o.aP cut l (bL z s c f d)))):=by
 refine bt [100004] slF GJ th Tryz.func120 ?_;conv=>whnf
 have hC:=bU (pv' :=pvW) (bR (cx' :=dx) rfl rfl (km z (by have:=hz.1;omega) hz.2));refine⟨[4,6,84,100003,100034,90032,90040,90041],_,hC,⟨rfl,rfl,rfl⟩,?_⟩;conv=>whnf
 refine aL ?_;conv=>whnf
 have kf:=bU (pv' :=pvW) (bR (cx' :=dx) rfl rfl (eU z s c f d (by have:=hz.1;omega) hd));have kj:=gW z s c f d;have kI:(bL z s c f d).af=z.af:=rfl;generalize kM:bL z s c f d=z1 at kf kj kI kd ⊢;have kz:=bU (pv' :=pvW) (bR (cx' :=dx) rfl rfl (rG o cut l z1 hh hl (by have:=hz.1;omega)));have kx:=pf o.w o.aP cut l z1;have kp:(di o.w o.aP cut l z1).af=z1.af:=iv ..;generalize kT:di o.w o.aP cut l z1=z2 at kz kx kp kd ⊢
 refine⟨Nat,λk=>⟨[(0,.ptr 100034 0),(4,.ptr 100004 0),(6,.ptr 6 0),(15,.own 84),(16,.d (.int .i64 2)),(17,.d (.int .i64 k))],fU (match k with|0=>z|1=>z1|_=>z2)++(6,.box [.d (.str []),.nil 5])::(84,.eF 177 1 [[ll s c f d],[mX l cut]])::gBz o⟩,
  λk=>k<=2,λk=>2-k,⟨0,Nat.zero_le _,(aq.name 4 100004 rfl rfl).trans (aq.keep)⟩,λk hk=>?_⟩
 rcases k with _|_|_|k
 case succ.succ.succ=>omega
 .conv=>whnf
  refine⟨by decide,bB rfl,?_⟩;conv=>whnf
  refine⟨_,rfl,?_⟩;conv=>whnf
  refine⟨[6,84,100003,100034,90032,90040,90041],_,kf,⟨by kernel_rfl,by kernel_rfl,by kernel_rfl⟩,?_⟩;conv=>whnf
  refine aL ?_;conv=>whnf
  exact⟨1,by decide,by(show 2-1<2-0;omega),aq.keep⟩
 .conv=>whnf
  refine⟨by decide,bB rfl,?_⟩;conv=>whnf
  refine⟨_,rfl,?_⟩;conv=>whnf
  refine⟨[6,84],_,kz,⟨by kernel_rfl,by kernel_rfl,by kernel_rfl⟩,?_⟩;conv=>whnf
  refine aL ?_;conv=>whnf
  exact⟨2,by decide,by(show 2-2<2-1;omega),aq.keep⟩
 have hT:=qd o z2 (by have:=hz.1;omega) (by rw[kp,kI];exact kd);conv at hT=>whnf
 conv=>whnf
 exact fV hT (aq.keep)
theorem Lv(o:bz)(z:aO)(s:Bs)(c:Int)(f:Int)(d:List Datum)(c2:Int)(f2:Int)(d2:List Datum)(c3:Int)(d3:List Datum)(cut:Bs)(l:List Int)(hz:ZSm z)(hh:∀n∈l,bJ o.w n=true)(hl:l.length<=1000)(hd:d.length<=100000)(yN:d2.length<=100000)(xW:d3.length<=100000)(kd:(wfR (di o.w o.aP cut l (bL (bL (bL z s c f d) s c2 f2 d2) s c3 f d3)) z.af 4).2=true->(wfR (di o.w o.aP cut l (bL (bL (bL z s c f d) s c2 f2 d2) s c3 f d3)) z.af 4).1.data≠[]) :
 FnP dx pvW 120 [.ptr 100034 0,.agg ((aX z).map .d),.own 87] ((87,.eF 177 1 [[ll s c f d],[ll s c2 f2 d2],[ll s c3 f d3],[mX l cut]])::gBz o) (nd (gBz o) (db o.since o.aN (di o.w o.aP cut l (bL (bL (bL z s c f d) s c2 f2 d2) s c3 f d3)))):=by
 refine bt [100004] slF GJ th Tryz.func120 ?_;conv=>whnf
 have hC:=bU (pv' :=pvW) (bR (cx' :=dx) rfl rfl (km z (by have:=hz.1;omega) hz.2));refine⟨[4,6,87,100003,100034,90032,90040,90041],_,hC,⟨rfl,rfl,rfl⟩,?_⟩;conv=>whnf
 refine aL ?_;conv=>whnf
 have kf:=bU (pv' :=pvW) (bR (cx' :=dx) rfl rfl (eU z s c f d (by have:=hz.1;omega) hd));have kj:=gW z s c f d;have kI:(bL z s c f d).af=z.af:=rfl;generalize kM:bL z s c f d=z1 at kf kj kI kd ⊢;have kz:=bU (pv' :=pvW) (bR (cx' :=dx) rfl rfl (eU z1 s c2 f2 d2 (by have:=hz.1;omega) yN));have kx:=gW z1 s c2 f2 d2;have kp:(bL z1 s c2 f2 d2).af=z1.af:=rfl;generalize kT:bL z1 s c2 f2 d2=z2 at kz kx kp kd ⊢;have xp:=bU (pv' :=pvW) (bR (cx' :=dx) rfl rfl (eU z2 s c3 f d3 (by have:=hz.1;omega) xW));have yc:=gW z2 s c3 f d3;have xr:(bL z2 s c3 f d3).af=z2.af:=rfl
 generalize yS:bL z2 s c3 f d3=z3 at xp yc xr kd ⊢
 have kS:=bU (pv' :=pvW) (bR (cx' :=dx) rfl rfl (rG o cut l z3 hh hl (by have:=hz.1;omega)));have ye:=pf o.w o.aP cut l z3;have xt:(di o.w o.aP cut l z3).af=z3.af:=iv ..;generalize yT:di o.w o.aP cut l z3=z4 at kS ye xt kd ⊢;refine⟨Nat,λk=>⟨[(0,.ptr 100034 0),(4,.ptr 100004 0),(6,.ptr 6 0),(15,.own 87),(16,.d (.int .i64 4)),(17,.d (.int .i64 k))],fU (match k with|0=>z|1=>z1|2=>z2|3=>z3|_=>z4)++(6,.box [.d (.str []),.nil 5])::(87,.eF 177 1 [[ll s c f d],[ll s c2 f2 d2],[ll s c3 f d3],[mX l cut]])::gBz o⟩,
  λk=>k<=4,λk=>4-k,⟨0,Nat.zero_le _,(aq.name 4 100004 rfl rfl).trans (aq.keep)⟩,λk hk=>?_⟩
 rcases k with _|_|_|_|_|k
 case succ.succ.succ.succ.succ=>omega
 .conv=>whnf
  refine⟨by decide,bB rfl,?_⟩;conv=>whnf
  refine⟨_,rfl,?_⟩;conv=>whnf
  refine⟨[6,87,100003,100034,90032,90040,90041],_,kf,⟨by kernel_rfl,by kernel_rfl,by kernel_rfl⟩,?_⟩;conv=>whnf
  refine aL ?_;conv=>whnf
  exact⟨1,by decide,by(show 4-1<4-0;omega),aq.keep⟩
 .conv=>whnf
  refine⟨by decide,bB rfl,?_⟩;conv=>whnf
  refine⟨_,rfl,?_⟩;conv=>whnf
  refine⟨[6,87,100003,100034,90032,90040,90041],_,kz,⟨by kernel_rfl,by kernel_rfl,by kernel_rfl⟩,?_⟩;conv=>whnf
  refine aL ?_;conv=>whnf
  exact⟨2,by decide,by(show 4-2<4-1;omega),aq.keep⟩
 .conv=>whnf
  refine⟨by decide,bB rfl,?_⟩;conv=>whnf
  refine⟨_,rfl,?_⟩;conv=>whnf
  refine⟨[6,87,100003,100034,90032,90040,90041],_,xp,⟨by kernel_rfl,by kernel_rfl,by kernel_rfl⟩,?_⟩;conv=>whnf
  refine aL ?_;conv=>whnf
  exact⟨3,by decide,by(show 4-3<4-2;omega),aq.keep⟩
 .conv=>whnf
  refine⟨by decide,bB rfl,?_⟩;conv=>whnf
  refine⟨_,rfl,?_⟩;conv=>whnf
  refine⟨[6,87],_,kS,⟨by kernel_rfl,by kernel_rfl,by kernel_rfl⟩,?_⟩;conv=>whnf
  refine aL ?_;conv=>whnf
  exact⟨4,by decide,by(show 4-4<4-3;omega),aq.keep⟩
 have hT:=qd o z4 (by have:=hz.1;omega) (by rw[xt,xr,kp,kI];exact kd);conv at hT=>whnf
 conv=>whnf
 exact fV hT (aq.keep)
theorem Lw(o:bz)(z:aO)(p:Signed->Bool)(x:bA)(s:Bs)(c:Int)(f:Int)(d:List Datum)(c3:Int)(d3:List Datum)(cut:Bs)(l:List Int)(hz:ZSm z)(hh:∀n∈l,bJ o.w n=true)(hl:l.length<=1000)(hd:d.length<=100000)(xW:d3.length<=100000)(hw:∀s,NQ.Fn cx 197 [.agg (aw s),.ptr [.fn 135 [] [.ptr (bj x)]]] (.d (.bool (p s))) [])(kd:(wfR (di o.w o.aP cut l (bL (bL (sy p z) s c f d) s c3 f d3)) z.af 4).2=true->(wfR (di o.w o.aP cut l (bL (bL (sy p z) s c f d) s c3 f d3)) z.af 4).1.data≠[]) :
 FnP dx pvW 120 [.ptr 100034 0,.agg ((aX z).map .d),.own 130] ((130,.eF 177 1 [[woA 135 x],[ll s c f d],[ll s c3 f d3],[mX l cut]])::gBz o) (nd (gBz o) (db o.since o.aN (di o.w o.aP cut l (bL (bL (sy p z) s c f d) s c3 f d3)))):=by
 refine bt [100004] slF GJ th Tryz.func120 ?_;conv=>whnf
 have hC:=bU (pv' :=pvW) (bR (cx' :=dx) rfl rfl (km z (by have:=hz.1;omega) hz.2));refine⟨[4,6,130,100003,100034,90032,90040,90041],_,hC,⟨rfl,rfl,rfl⟩,?_⟩;conv=>whnf
 refine aL ?_;conv=>whnf
 have kf:=bU (pv' :=pvW) (bR (cx' :=dx) rfl rfl (wU z p 135 x (by have:=hz.1;omega) hw));have kj:=QL p z;have kI:(sy p z).af=z.af:=rfl
 change FnP _ _ _ _ _ (some (_,fU (sy p z)))at kf
 generalize kM:sy p z=z1 at kf kj kI kd ⊢
 have kz:=bU (pv' :=pvW) (bR (cx' :=dx) rfl rfl (eU z1 s c f d (by have:=hz.1;omega) hd));have kx:=gW z1 s c f d;have kp:(bL z1 s c f d).af=z1.af:=rfl;generalize kT:bL z1 s c f d=z2 at kz kx kp kd ⊢;have xp:=bU (pv' :=pvW) (bR (cx' :=dx) rfl rfl (eU z2 s c3 f d3 (by have:=hz.1;omega) xW));have yc:=gW z2 s c3 f d3;have xr:(bL z2 s c3 f d3).af=z2.af:=rfl;generalize yS:bL z2 s c3 f d3=z3 at xp yc xr kd ⊢;have kS:=bU (pv' :=pvW) (bR (cx' :=dx) rfl rfl (rG o cut l z3 hh hl (by have:=hz.1;omega)));have ye:=pf o.w o.aP cut l z3;have xt:(di o.w o.aP cut l z3).af=z3.af:=iv ..
 generalize yT:di o.w o.aP cut l z3=z4 at kS ye xt kd ⊢
 refine⟨Nat,λk=>⟨[(0,.ptr 100034 0),(4,.ptr 100004 0),(6,.ptr 6 0),(15,.own 130),(16,.d (.int .i64 4)),(17,.d (.int .i64 k))],fU (match k with|0=>z|1=>z1|2=>z2|3=>z3|_=>z4)++(6,.box [.d (.str []),.nil 5])::(130,.eF 177 1 [[woA 135 x],[ll s c f d],[ll s c3 f d3],[mX l cut]])::gBz o⟩,
  λk=>k<=4,λk=>4-k,⟨0,Nat.zero_le _,(aq.name 4 100004 rfl rfl).trans (aq.keep)⟩,λk hk=>?_⟩
 rcases k with _|_|_|_|_|k
 case succ.succ.succ.succ.succ=>omega
 .conv=>whnf
  refine⟨by decide,bB rfl,?_⟩;conv=>whnf
  refine⟨_,rfl,?_⟩;conv=>whnf
  refine⟨[6,130,100003,100034,90032,90040,90041],_,kf,⟨by kernel_rfl,by kernel_rfl,by kernel_rfl⟩,?_⟩;conv=>whnf
  refine aL ?_;conv=>whnf
  exact⟨1,by decide,by(show 4-1<4-0;omega),aq.keep⟩
 .conv=>whnf
  refine⟨by decide,bB rfl,?_⟩;conv=>whnf
  refine⟨_,rfl,?_⟩;conv=>whnf
  refine⟨[6,130,100003,100034,90032,90040,90041],_,kz,⟨by kernel_rfl,by kernel_rfl,by kernel_rfl⟩,?_⟩;conv=>whnf
  refine aL ?_;conv=>whnf
  exact⟨2,by decide,by(show 4-2<4-1;omega),aq.keep⟩
 .conv=>whnf
  refine⟨by decide,bB rfl,?_⟩;conv=>whnf
  refine⟨_,rfl,?_⟩;conv=>whnf
  refine⟨[6,130,100003,100034,90032,90040,90041],_,xp,⟨by kernel_rfl,by kernel_rfl,by kernel_rfl⟩,?_⟩;conv=>whnf
  refine aL ?_;conv=>whnf
  exact⟨3,by decide,by(show 4-3<4-2;omega),aq.keep⟩
 .conv=>whnf
  refine⟨by decide,bB rfl,?_⟩;conv=>whnf
  refine⟨_,rfl,?_⟩;conv=>whnf
  refine⟨[6,130],_,kS,⟨by kernel_rfl,by kernel_rfl,by kernel_rfl⟩,?_⟩;conv=>whnf
  refine aL ?_;conv=>whnf
  exact⟨4,by decide,by(show 4-4<4-3;omega),aq.keep⟩
 have hT:=qd o z4 (by have:=hz.1;omega) (by rw[xt,xr,kp,kI];exact kd);conv at hT=>whnf
 conv=>whnf
 exact fV hT (aq.keep)
def eH(o:bz):bz:={o with got:=dE o.w o.got o.aF,bp:=o.bp++(if o.aF=[]then[]else[o.aF]),aF:=[]}
theorem Ac(o:bz):iH o=eH o:=by
 unfold iH eH;cases o with|mk w s t z l g p st =>
 dsimp only;by_cases h:p=[]
 .subst h;rw[if_pos rfl,if_pos rfl,List.append_nil];rfl
 .rw[if_neg h,if_neg h]
theorem dz{z:aO}(h:bf z=true):ZSm z:=by
 have ho:=bQ h;exact⟨by have:=ho.few;omega,λs hs=>by have:=rl h s hs;omega⟩
theorem iD{since aN:Int}{y z:aO}(h:db since aN y=some z):bf z=true:=by
 unfold db at h;split at h
 .split at h
  .cases h
  .unfold lW at h;split at h
   .split at h
    .cases h
    .split at h
     .cases h
     .split at h
      .cases h
      .rename_i hc;cases h;simp only[Bool.or_eq_true,not_or,Bool.not_eq_true,Bool.not_eq_false']at hc;exact hc.2
   .cases h
 .cases h
def mg(z:aO):Prop:= ∀s∈z.ak,s.set.data≠[]
theorem js{z:aO}{s:Bs}{k:Int}(h:mg z)(hf:(wfR z s k).2=true):(wfR z s k).1.data≠[]:=by
 unfold wfR at hf ⊢;unfold mn at hf ⊢;cases hc:z.ak.find? (isF s k)with
 |none=>rw[hc]at hf;cases hf
 |some x=>exact h x (List.mem_of_find?_eq_some hc)
theorem hU{z:aO}{s:Bs}{k aP:Int}{data:List Datum}(h:mg z)(hd:data≠[]):mg (bL z s k aP data):=by
 intro x hx;have hb:(eM z s k aP data).set.data≠[]:=hd;unfold bL at hx;dsimp only at hx;split at hx
 .rcases List.mem_or_eq_of_mem_set hx with hx|rfl
  .exact h x hx
  .exact hb
 .rcases List.mem_append.1 hx with hx|hx
  .rcases List.mem_append.1 hx with hx|hx
   .exact h x (List.mem_of_mem_take hx)
   .rcases List.mem_singleton.1 hx with rfl;exact hb
  .exact h x (List.mem_of_mem_drop hx)
theorem pd(w:aZ)(aP:Int)(cut:Bs):∀(l:List Int) {z:aO},mg z->mg (di w aP cut l z)
 |[],z,h=>h
 |n::t,z,h=>by
  show mg (di w aP cut t (nK w aP cut z n))
  refine pd w aP cut t ?_;unfold nK;split
  .exact hU h (by simp)
  .exact h
theorem PU(p:Signed->Bool){z:aO}(h:mg z):mg (sy p z):=λx hx=>h x (List.mem_filter.1 hx).1
theorem mq{z:aO}(h:bf z=true):mg z:=λs hs=>by
 obtain⟨d,hd⟩:=wD ((bQ h).set s hs);intro e;rw[e]at hd;cases hd
theorem vS{w:aZ}{g:List (Bs×List Int)}:∀(l:List ao),(∀p∈l,jO w g p=false)->dE w g l=g
 |[],_=>rfl
 |p::t,h=>by
  show dE w (kv w g p) t=g
  have:kv w g p=g:=by unfold kv;rw[if_neg (by rw[h p (List.mem_cons_self ..)];decide)]
  rw[this];exact vS t λq hq=>h q (bC _ hq)
theorem tJ{o:bz}{z:aO}:∀p∈bT z o.w.ai++dL z (bW o.got z.af),jO o.w o.got p=false:=by
 intro p hp;rcases List.mem_append.1 hp with hp|hp
 .unfold bT at hp;obtain⟨q,hq,rfl⟩:=List.mem_map.1 hp;obtain⟨zd,ze⟩:=List.mem_filter.1 hq;have:o.w.ai.any (fb q.host z.af)=true:=List.any_eq_true.2 ⟨q,zd,by unfold fb;simp;simpa using ze⟩;unfold jO;simp[this]
 .unfold dL at hp;obtain⟨n,hn,rfl⟩:=List.mem_map.1 hp;unfold jO;have:(bW o.got z.af).contains n=true:=mc.2 hn;dsimp only;rw[this];simp
theorem Em{w:aZ}{g:List (Bs×List Int)}{n:Int}{a:Bs}:jO w g ⟨n,⟨a,[]⟩⟩=false:=rfl
theorem kY(o:bz)(hn:o.w.ai.length<=1000)(hp:o.aF.length<=100000)(hs:o.bp.length<=1000)(kg:∀a,(bW o.got a).length<=1000)(hz:∀p∈o.aF,p.ah.ak.length<=100000)(h:∀p∈o.aF,jO o.w o.got p=false) :
 FnP tW pvW 115 [.ptr 100034 0] (bH o) (some (.tuple [],bH {o with bp:=o.bp++(if o.aF=[]then[]else[o.aF]),aF:=[]})):=by
 have e:iH o={o with bp:=o.bp++(if o.aF=[]then[]else[o.aF]),aF:=[]}:=by
  rw[Ac];unfold eH;rw[vS o.aF h]
 rw[<- e];have hk:∀k,dE o.w o.got (o.aF.take k)=o.got:=λk=>vS _ λp hp=>h p (List.mem_of_mem_take hp)
 refine Ae o hn hp hs (λk p yD=>?_) hz λk p yD ha=>?_
 .rw[hk];have:=kg p.ah.af;omega
 .rw[hk,h p (aD yD)]at ha;cases ha
def cy(o:bz):bz:={o with bp:=o.bp++(if o.aF=[]then[]else[o.aF]),aF:=[]}
def keyOf(x:bA):List Datum:=[⟨[],x.key.n,x.key.alg⟩]
def DM(z:aO)(x:bA):List Datum:=dD (gS fW (⟨[],x.key.n,x.key.alg⟩::(wfR z x.ah 7).1.data))
def tc(o:bz)(x:bA)(z:aO):Option bz:=match db o.since o.aN (bL z x.ah 7 o.aP (keyOf x))with
 |none=>none
 |some z3=>some (cy (aS o z3))
def nO(o:bz)(x:bA)(z ab:aO):Option bz:=if (wfR ab x.ah 6).2=true then(match db o.since o.aN (bL ab x.ah 6 o.aP (keyOf x))with
 |none=>none
 |some z2=>tc (cy (aS o z2)) x z)else none
def wg(o:bz)(x:bA)(ab:aO):Option bz:=if (wfR o.ah x.ah 7).2=true then(match db o.since o.aN (bL o.ah x.ah 7 o.aP (DM o.ah x))with
 |none=>none
 |some z=>nO (cy (aS o z)) x z ab)else none
def mQ(o:bz)(x:bA):Option bz:=if (cH o.w.ai x.ah).2=true then wg o x (cH o.w.ai x.ah).1 else none
def jb:Option bz->Option (AV×List (Nat×Blk))
 |some o=>some (.tuple [],bH o)
 |none=>none
theorem lift{cx cx' :Cx}{pv:Int->Value}{f:FuncId}{args:List AV}{h:List (Nat×Blk)}{out:Option (AV×List (Nat×Blk))}(hf:FnP cx pv f args h out)(h1:cx'.P=cx.P)(h2:cx'.gl=cx.gl):FnP cx' pv f args h out:=bR h1 h2 hf
theorem oO{o:bz}{n:Nat}(h:o.bp.length<=n):(cy o).bp.length<=n+1:=by
 show(o.bp++_).length<=_
 rw[List.length_append];split <;> simp <;> omega
theorem Cl(z:aO)(l:List ao):(bT z l).length<=l.length:=by
 unfold bT;rw[aA];exact List.length_filter_le ..
theorem vM(o:bz)(z:aO)(hn:o.w.ai.length<=1000)(hp:o.aF=[])(hs:o.bp.length<=1000)(hg:o.got=[])(hz:ZSm z) :
 FnP tW pvW 115 [.ptr 100034 0] (bH (aS o z)) (some (.tuple [],bH (cy (aS o z)))):=by
 have kb:∀a,bW o.got a=[]:=λa=>by rw[hg];rfl
 have xC:(aS o z).aF=bT z o.w.ai++dL z (bW o.got z.af):=by
  show o.aF++_++_=_
  rw[hp];rfl
 have hl:=Cl z o.w.ai;refine kY (aS o z) hn ?_ hs (λa=>by show(bW o.got a).length<=_;rw[kb];simp) (λp xB =>?_) λp xB =>?_
 .rw[xC,kb];simp[dL];omega
 .rw[xC]at xB;have:p.ah=z:=by
   rcases List.mem_append.1 xB with h|h
   .unfold bT at h;obtain⟨q,_,rfl⟩:=List.mem_map.1 h;rfl
   .unfold dL at h;obtain⟨q,_,rfl⟩:=List.mem_map.1 h;rfl
  rw[this];have:=hz.1;omega
 .rw[xC]at xB;exact tJ p xB
attribute [local irreducible] NQ.FnP
noncomputable def gY:Cx:={cx with chg:=gX [(112,10),(111,9),(123,9),(63,11),(124,2),(126,1),(116,9),(120,9),(119,9),(115,9)],bld:=[52,77,95]}
theorem Vn:bD gY:=bo
theorem SV:gY.P.follows .mixedOrders=true:=mixed
def TZ:Nat->List Nat:=fun|1=>[33333]|2=>[55555]|3=>[33333]|4=>[33333,55555]|5=>[33333,55555]|8=>[33333,55555]|9=>[33333,55555]|10=>[33333]|11=>[33333,55555]|12=>[33333,55555]|13=>[33333]|14=>[33333,55555]|15=>[33333]|_=>[]
noncomputable abbrev Ub:Code:=(Tryz.f65).body.getD .skip
noncomputable abbrev Vc:List ResultVar:=(Tryz.f65).results.toList
theorem Nu(o:bz)(x:bA)(z ab:aO)(hn:o.w.ai.length<=1000)(hp:o.aF=[])(hs:o.bp.length<=100)(hg:o.got=[])(hz:bf z=true)(hY:bf ab=true) :
 vcp gY [] pvW 100 TZ (λ_=>jb (nO (cy (aS o z)) x z ab)=none) ((gL 9 Ub).getD .skip) (nI gY [] Vc (jb (nO (cy (aS o z)) x z ab)))
  ⟨[(0,.ptr 100034 0),(3,.ptr 3 0),(4,.ptr 4 0),(8,.ptr 8 0)],(3,.box ((bj x).map .d))::(4,.box ((aX ab).map .d))::(8,.box ((aX z).map .d))::bH o⟩:=by
 conv=>whnf
 refine⟨_,aq.refl _,?_⟩;conv=>whnf
 obtain⟨r,hr⟩:∃r,r=nO (cy (aS o z)) x z ab:=⟨_,rfl⟩
 rw[<- hr];have kb:∀a,bW o.got a=[]:=λa=>by rw[hg];rfl
 have kB:=lift (cx' :=gY) (kH o z (dz hz) hn (by rw[hp];simp) (by rw[kb];simp)) rfl rfl;refine⟨[3,4,8],_,kB,⟨rfl,rfl,rfl⟩,?_⟩;conv=>whnf
 refine aL ?_;conv=>whnf
 have kn:=lift (cx' :=gY) (vM o z hn hp (by omega) hg (dz hz)) rfl rfl;refine⟨[3,4,8],_,kn,⟨rfl,rfl,rfl⟩,?_⟩;conv=>whnf
 refine aL ?_;conv=>whnf
 have xM:(cy (aS o z)).bp.length<=101:=oO (o:=aS o z) hs;have kL:(cy (aS o z)).w=o.w:=rfl;have kM:(cy (aS o z)).got=[]:=hg;have xn:(cy (aS o z)).aF=[]:=rfl;generalize cy (aS o z)=o1 at hr xM kL kM xn ⊢;refine⟨_,aq.keep (sl:=[(0,.ptr 100034 0),(3,.ptr 3 0),(4,.ptr 4 0),(8,.ptr 8 0)]) (h:=(3,.box ((bj x).map .d))::(4,.box ((aX ab).map .d))::(8,.box ((aX z).map .d))::bH o1),?_⟩;conv=>whnf
 clear kB kn;have hN:=uq ab x.ah 6 (by have:=(dz hY).1;omega);unfold nO at hr;generalize wfR ab x.ah 6=s6 at hN hr;obtain⟨s6,b6⟩:=s6;dsimp only at hN hr;cases b6 with
 |false =>
  rw[if_neg (by decide)]at hN hr;subst hr;have hN:=lift (cx' :=gY) hN rfl rfl;exact⟨[3,4,8,100034,90032,90040,90041],_,hN,⟨rfl,rfl,rfl⟩,rfl⟩
 |true =>
 rw[if_pos rfl]at hN hr;have hN:=lift (cx' :=gY) hN rfl rfl;refine⟨[3,4,8,100034,90032,90040,90041],_,hN,⟨rfl,rfl,rfl⟩,?_⟩;conv=>whnf
 refine aL ?_;conv=>whnf
 refine⟨_,aq.keep (sl:=[(0,.ptr 100034 0),(3,.ptr 3 0),(4,.ptr 4 0),(8,.ptr 8 0)]) (h:=(3,.box ((bj x).map .d))::(4,.box ((aX ab).map .d))::(8,.box ((aX z).map .d))::bH o1),?_⟩;conv=>whnf
 clear hN;have hK:=bU (pv' :=pvW) (lift (cx' :=gY) (oP x.key) rfl rfl);have hB:=bU (pv' :=pvW) (lift (cx' :=gY) (eG x.ah 6 o1.aP (keyOf x)) rfl rfl);have hS:=lift (cx' :=gY) (rU o1 ab x.ah 6 o1.aP (keyOf x) hY (by simp[keyOf]) (λh=>js (hU (mq hY) (by simp[keyOf])) h)) rfl rfl;cases hq:db o1.since o1.aN (bL ab x.ah 6 o1.aP (keyOf x))with
 |none =>
  rw[hq]at hS hr;subst hr
  (refine cu ?_;conv=>whnf)
  refine⟨[3,4,8,100034,90032,90040,90041],_,hK,⟨rfl,rfl,rfl⟩,?_⟩;conv=>whnf
  refine aL ?_
  (conv=>arg 2;arg 1;reduce);(conv=>arg 2;arg 2;tactic=>(refine Eq.trans (b:=(3,.box ((bj x).map .d))::(4,.box ((aX ab).map .d))::(8,.box ((aX z).map .d))::bH o1) ?_ rfl;kernel_rfl))
  conv=>whnf
  repeat (refine cO ?_;conv=>whnf)
  refine⟨[3,4,8,100034,90032,90040,90041],_,hB,⟨rfl,rfl,rfl⟩,?_⟩;conv=>whnf
  refine aL ?_
  (conv=>arg 2;arg 1;reduce);(conv=>arg 2;arg 2;tactic=>(refine Eq.trans (b:=(3,.box ((bj x).map .d))::(4,.box ((aX ab).map .d))::(8,.box ((aX z).map .d))::bH o1) ?_ rfl;kernel_rfl))
  conv=>whnf
  repeat (refine cO ?_;conv=>whnf)
  exact⟨[3,4,8],_,hS,⟨rfl,rfl,rfl⟩,rfl⟩
 |some z2 =>
 rw[hq]at hS hr;have xN:=iD hq;have kB:=lift (cx' :=gY) (kH o1 z2 (dz xN) (by rw[kL];exact hn) (by rw[xn];simp) (by rw[kM];simp[bW,bG])) rfl rfl
 (refine cu ?_;conv=>whnf)
 refine⟨[3,4,8,100034,90032,90040,90041],_,hK,⟨rfl,rfl,rfl⟩,?_⟩;conv=>whnf
 refine aL ?_
 (conv=>arg 2;arg 1;reduce);(conv=>arg 2;arg 2;tactic=>(refine Eq.trans (b:=(3,.box ((bj x).map .d))::(4,.box ((aX ab).map .d))::(8,.box ((aX z).map .d))::bH o1) ?_ rfl;kernel_rfl))
 conv=>whnf
 repeat (refine cO ?_;conv=>whnf)
 refine⟨[3,4,8,100034,90032,90040,90041],_,hB,⟨rfl,rfl,rfl⟩,?_⟩;conv=>whnf
 refine aL ?_
 (conv=>arg 2;arg 1;reduce);(conv=>arg 2;arg 2;tactic=>(refine Eq.trans (b:=(3,.box ((bj x).map .d))::(4,.box ((aX ab).map .d))::(8,.box ((aX z).map .d))::bH o1) ?_ rfl;kernel_rfl))
 conv=>whnf
 repeat (refine cO ?_;conv=>whnf)
 refine⟨[3,4,8],_,hS,⟨rfl,rfl,rfl⟩,?_⟩;conv=>whnf
 refine aL ?_
 (conv=>arg 2;arg 1;reduce);(conv=>arg 2;arg 2;tactic=>(refine Eq.trans (b:=(3,.box ((bj x).map .d))::(4,.box ((aX ab).map .d))::(8,.box ((aX z).map .d))::bH o1) ?_ rfl;kernel_rfl))
 conv=>whnf
 repeat (refine cO ?_;conv=>whnf)
 refine⟨[3,4,8],_,kB,⟨rfl,rfl,rfl⟩,?_⟩;conv=>whnf
 refine aL ?_
 (conv=>arg 2;arg 1;reduce);(conv=>arg 2;arg 2;tactic=>(refine Eq.trans (b:=(3,.box ((bj x).map .d))::(4,.box ((aX ab).map .d))::(8,.box ((aX z).map .d))::bH (aS o1 z2)) ?_ rfl;kernel_rfl))
 conv=>whnf
 have kn:=lift (cx' :=gY) (vM o1 z2 (by rw[kL];exact hn) xn (by omega) kM (dz xN)) rfl rfl;refine⟨[3,4,8],_,kn,⟨rfl,rfl,rfl⟩,?_⟩;conv=>whnf
 refine aL ?_;conv=>whnf
 replace hr:r=tc (cy (aS o1 z2)) x z:=hr;have zf:(cy (aS o1 z2)).bp.length<=102:=oO (o:=aS o1 z2) xM;have yl:(cy (aS o1 z2)).w=o.w:=kL;have kT:(cy (aS o1 z2)).got=[]:=kM;have yi:(cy (aS o1 z2)).aF=[]:=rfl;generalize cy (aS o1 z2)=o2 at hr zf yl kT yi ⊢;refine⟨_,aq.keep (sl:=[(0,.ptr 100034 0),(3,.ptr 3 0),(4,.ptr 4 0),(8,.ptr 8 0)]) (h:=(3,.box ((bj x).map .d))::(4,.box ((aX ab).map .d))::(8,.box ((aX z).map .d))::bH o2),?_⟩;conv=>whnf
 clear kB kn hB hS hq;have hB:=bU (pv' :=pvW) (lift (cx' :=gY) (eG x.ah 7 o2.aP (keyOf x)) rfl rfl);have hS:=lift (cx' :=gY) (rU o2 z x.ah 7 o2.aP (keyOf x) hz (by simp[keyOf]) (λh=>js (hU (mq hz) (by simp[keyOf])) h)) rfl rfl;unfold tc at hr;cases hq:db o2.since o2.aN (bL z x.ah 7 o2.aP (keyOf x))with
 |none =>
  rw[hq]at hS hr;subst hr
  (refine cu ?_;conv=>whnf)
  refine⟨[3,4,8,100034,90032,90040,90041],_,hK,⟨rfl,rfl,rfl⟩,?_⟩;conv=>whnf
  refine aL ?_
  (conv=>arg 2;arg 1;reduce);(conv=>arg 2;arg 2;tactic=>(refine Eq.trans (b:=(3,.box ((bj x).map .d))::(4,.box ((aX ab).map .d))::(8,.box ((aX z).map .d))::bH o2) ?_ rfl;kernel_rfl))
  conv=>whnf
  repeat (refine cO ?_;conv=>whnf)
  refine⟨[3,4,8,100034,90032,90040,90041],_,hB,⟨rfl,rfl,rfl⟩,?_⟩;conv=>whnf
  refine aL ?_
  (conv=>arg 2;arg 1;reduce);(conv=>arg 2;arg 2;tactic=>(refine Eq.trans (b:=(3,.box ((bj x).map .d))::(4,.box ((aX ab).map .d))::(8,.box ((aX z).map .d))::bH o2) ?_ rfl;kernel_rfl))
  conv=>whnf
  repeat (refine cO ?_;conv=>whnf)
  exact⟨[3,4,8],_,hS,⟨rfl,rfl,rfl⟩,rfl⟩
 |some z3 =>
 rw[hq]at hS hr;have xH:=iD hq;have kB:=lift (cx' :=gY) (kH o2 z3 (dz xH) (by rw[yl];exact hn) (by rw[yi];simp) (by rw[kT];simp[bW,bG])) rfl rfl;have kn:=lift (cx' :=gY) (vM o2 z3 (by rw[yl];exact hn) yi (by omega) kT (dz xH)) rfl rfl
 (refine cu ?_;conv=>whnf)
 refine⟨[3,4,8,100034,90032,90040,90041],_,hK,⟨rfl,rfl,rfl⟩,?_⟩;conv=>whnf
 refine aL ?_
 (conv=>arg 2;arg 1;reduce);(conv=>arg 2;arg 2;tactic=>(refine Eq.trans (b:=(3,.box ((bj x).map .d))::(4,.box ((aX ab).map .d))::(8,.box ((aX z).map .d))::bH o2) ?_ rfl;kernel_rfl))
 conv=>whnf
 repeat (refine cO ?_;conv=>whnf)
 refine⟨[3,4,8,100034,90032,90040,90041],_,hB,⟨rfl,rfl,rfl⟩,?_⟩;conv=>whnf
 refine aL ?_
 (conv=>arg 2;arg 1;reduce);(conv=>arg 2;arg 2;tactic=>(refine Eq.trans (b:=(3,.box ((bj x).map .d))::(4,.box ((aX ab).map .d))::(8,.box ((aX z).map .d))::bH o2) ?_ rfl;kernel_rfl))
 conv=>whnf
 repeat (refine cO ?_;conv=>whnf)
 refine⟨[3,4,8],_,hS,⟨rfl,rfl,rfl⟩,?_⟩;conv=>whnf
 refine aL ?_
 (conv=>arg 2;arg 1;reduce);(conv=>arg 2;arg 2;tactic=>(refine Eq.trans (b:=(3,.box ((bj x).map .d))::(4,.box ((aX ab).map .d))::(8,.box ((aX z).map .d))::bH o2) ?_ rfl;kernel_rfl))
 conv=>whnf
 repeat (refine cO ?_;conv=>whnf)
 refine⟨[3,4,8],_,kB,⟨rfl,rfl,rfl⟩,?_⟩;conv=>whnf
 refine aL ?_
 (conv=>arg 2;arg 1;reduce);(conv=>arg 2;arg 2;tactic=>(refine Eq.trans (b:=(3,.box ((bj x).map .d))::(4,.box ((aX ab).map .d))::(8,.box ((aX z).map .d))::bH (aS o2 z3)) ?_ rfl;kernel_rfl))
 conv=>whnf
 refine⟨[3,4,8],_,kn,⟨rfl,rfl,rfl⟩,?_⟩;conv=>whnf
 refine aL ?_
 (conv=>arg 2;arg 1;reduce);(conv=>arg 2;arg 2;tactic=>(refine Eq.trans (b:=(3,.box ((bj x).map .d))::(4,.box ((aX ab).map .d))::(8,.box ((aX z).map .d))::bH (cy (aS o2 z3))) ?_ rfl;kernel_rfl))
 conv=>whnf
 replace hr:r=some (cy (aS o2 z3)):=hr;subst hr;exact .inl ⟨[],aq.keep trivial,rfl⟩
theorem xV:∀l:List Datum,(dD l).length<=l.length
 |[]=>Nat.le_refl _
 |[a]=>Nat.le_refl _
 |a::b::t=>by
  have:=xV (b::t);show(if a=b then dD (b::t)else a::dD (b::t)).length<=_
  split <;> simp at this ⊢ <;> omega
theorem zU:∀l:List Datum,l≠[]->dD l≠[]
 |[],h=>absurd rfl h
 |[a],_=>by simp[dD]
 |a::b::t,_=>by
  have:=zU (b::t) (by simp);show(if a=b then dD (b::t)else a::dD (b::t))≠[]
  split
  .exact this
  .simp
theorem xP{zs:List ao}{a:Bs}(hv:∀p∈zs,bf p.ah=true)(h:(cH zs a).2=true):bf (cH zs a).1=true:=by
 unfold cH at h ⊢;split at h
 .rename_i h1;rw[if_pos h1];split at h
  .rename_i h2;rw[if_pos h2];rcases eW zs (dO a zs).1 with ⟨p,hp,hc,_⟩|⟨hc,_⟩
   .rw[hc];exact hv p hp
   .rw[hc]at h2;cases h2
  .cases h
 .cases h
theorem sk{z:aO}{s:Bs}{k:Int}(hz:bf z=true)(h:(wfR z s k).2=true):(wfR z s k).1.data.length<=1000:=by
 unfold wfR mn at h ⊢;cases hc:z.ak.find? (isF s k)with
 |none=>rw[hc]at h;cases h
 |some x =>
  have:=(rl hz x (List.mem_of_find?_eq_some hc)).1;show x.set.data.length<=1000
  omega
theorem wH(l:List Datum):(gS fW l).length=l.length:=(nW (xT.ok _)).length_eq
theorem Ql(o:bz)(x:bA)(hv:∀p∈o.w.ai,bf p.ah=true)(hn:o.w.ai.length<=1000)(hz:bf o.ah=true)(yh:o.aF=[])(yG:o.bp.length<=100)(kK:o.got=[]):FnP gY pvW 65 [.ptr 100034 0,.agg ((bj x).map .d)] (bH o) (jb (mQ o x)):=by
 refine bt [] TZ Vn SV Tryz.func65 ?_;conv=>whnf
 obtain⟨r,hr⟩:∃r,r=mQ o x:=⟨_,rfl⟩
 rw[<- hr];unfold mQ at hr;have hA:=bU (pv' :=pvW) (lift (cx' :=gY) (rp o.w x.ah hv (by omega)) rfl rfl);have xc:=xP (a:=x.ah) hv;generalize cH o.w.ai x.ah=ab at hA hr xc;obtain⟨ab,b⟩:=ab;dsimp only at hA hr xc;apply sU (α:=Unit) (P:=λ_=>True) (canon:=λ_=>⟨[(0,.ptr 100034 0),(3,.ptr 3 0),(4,.ptr 4 0),(5,.d (.bool b))],(3,.box ((bj x).map .d))::(4,.box ((aX ab).map .d))::bH o⟩)
 .intro rest
  (refine cu ?_;conv=>whnf)
  repeat' (first
   |(refine cO ?_;conv=>whnf)
   |(refine⟨[3,100034,90032,90040,90041],_,hA,⟨rfl,rfl,rfl⟩,?_⟩;(conv=>whnf);refine aL ?_;(conv=>whnf))
   |(refine⟨[3,4,100034,90032,90040,90041],_,hA,⟨rfl,rfl,rfl⟩,?_⟩;(conv=>whnf);refine aL ?_;(conv=>whnf))
   |(refine And.intro ?_ ?_ <;> (conv=>whnf)))
  all_goals exact nj (aq.keep) (rest () trivial)
 rintro _ _;unfold App;conv=>whnf
 cases b with
 |false =>
  rw[if_neg (by decide)]at hr;subst hr;conv=>whnf
  have hF:=lift (cx' :=gY) (ku 4 (by decide)) rfl rfl;exact⟨[3,4,100034,90032,90040,90041],_,hF,⟨rfl,rfl,rfl⟩,rfl⟩
 |true =>
 rw[if_pos rfl]at hr;conv=>whnf
 refine⟨_,aq.keep (sl:=[(0,.ptr 100034 0),(3,.ptr 3 0),(4,.ptr 4 0)]) (h:=(3,.box ((bj x).map .d))::(4,.box ((aX ab).map .d))::bH o),?_⟩;conv=>whnf
 have hK:=bU (pv' :=pvW) (lift (cx' :=gY) (yg x.key) rfl rfl);refine⟨[3,4,100034,90032,90040,90041],_,hK,⟨rfl,rfl,rfl⟩,?_⟩;conv=>whnf
 refine aL ?_;conv=>whnf
 refine⟨_,aq.keep (sl:=[(0,.ptr 100034 0),(3,.ptr 3 0),(4,.ptr 4 0),(6,.own 90050)]) (h:=(3,.box ((bj x).map .d))::(4,.box ((aX ab).map .d))::(90050,.row 70 3 [aQ ⟨[],x.key.n,x.key.alg⟩])::bH o),?_⟩;conv=>whnf
 have yo:=sk (s:=x.ah) (k:=7) hz;have hN:=uq o.ah x.ah 7 (by have:=(dz hz).1;omega);unfold wg DM at hr;generalize wfR o.ah x.ah 7=s7 at hN hr yo;obtain⟨s7,b7⟩:=s7;dsimp only at hN hr yo;cases b7 with
 |false =>
  rw[if_neg (by decide)]at hN hr;subst hr;have hN:=lift (cx' :=gY) hN rfl rfl
  (refine cu ?_;conv=>whnf)
  exact⟨[3,4,90050,100034,90032,90040,90041],_,hN,⟨rfl,rfl,rfl⟩,rfl⟩
 |true =>
 rw[if_pos rfl]at hN hr;have hN:=lift (cx' :=gY) hN rfl rfl;have zh:=yo rfl
 (refine cu ?_;conv=>whnf)
 refine⟨[3,4,90050,100034,90032,90040,90041],_,hN,⟨rfl,rfl,rfl⟩,?_⟩;conv=>whnf
 refine aL ?_;conv=>whnf
 repeat (refine cO ?_;conv=>whnf)
 refine⟨by simp;omega,by simp;omega,?_⟩;conv=>whnf
 repeat (refine cO ?_;conv=>whnf)
 refine⟨_,De (⟨[],x.key.n,x.key.alg⟩::s7.data) (by simp;omega) _,?_⟩;conv=>whnf
 have ko:(gS fW (⟨[],x.key.n,x.key.alg⟩::s7.data)).length<=100000:=by rw[wH];simp;omega
 have kl:gS fW (⟨[],x.key.n,x.key.alg⟩::s7.data)≠[]:=λe=>by have:=wH (⟨[],x.key.n,x.key.alg⟩::s7.data);rw[e]at this;simp at this
 generalize gS fW (⟨[],x.key.n,x.key.alg⟩::s7.data)=so at ko kl hr ⊢
 refine⟨_,ER so ko _,?_⟩;conv=>whnf
 have yv:(dD so).length<=100000:=Nat.le_trans (xV so) ko;have xu:=zU so kl;generalize dD so=both at yv xu hr ⊢;refine⟨_,aq.trans (aq.sn [90050]) (aq.keep (sl:=[(0,.ptr 100034 0),(3,.ptr 3 0),(4,.ptr 4 0),(7,.d (.slice 3 (both.map aQ)))]) (h:=(3,.box ((bj x).map .d))::(4,.box ((aX ab).map .d))::bH o)),?_⟩;conv=>whnf
 clear hA hK hN;have hB:=bU (pv' :=pvW) (lift (cx' :=gY) (eG x.ah 7 o.aP both) rfl rfl);have hS:=lift (cx' :=gY) (rU o o.ah x.ah 7 o.aP both hz yv (λh=>js (hU (mq hz) xu) h)) rfl rfl;cases hq:db o.since o.aN (bL o.ah x.ah 7 o.aP both)with
 |none =>
  rw[hq]at hS hr;subst hr
  (refine cu ?_;conv=>whnf)
  repeat' (first
   |(refine cO ?_;conv=>whnf)
   |(refine⟨[3,4,100034,90032,90040,90041],_,hB,⟨rfl,rfl,rfl⟩,?_⟩;(conv=>whnf);refine aL ?_;(conv=>arg 2;arg 1;reduce);(conv=>whnf))
   |(refine⟨[3,4,8,100034,90032,90040,90041],_,hB,⟨rfl,rfl,rfl⟩,?_⟩;(conv=>whnf);refine aL ?_;(conv=>arg 2;arg 1;reduce);(conv=>whnf))
   |exact⟨[3,4],_,hS,⟨rfl,rfl,rfl⟩,rfl⟩
   |exact⟨[3,4,8],_,hS,⟨rfl,rfl,rfl⟩,rfl⟩
   |(refine And.intro ?_ ?_ <;> (conv=>whnf)))
 |some z =>
 rw[hq]at hS hr;have xN:=iD hq;have hT:=Nu o x z ab hn yh yG kK xN (xc rfl);conv at hT=>whnf
 replace hr:r=nO (cy (aS o z)) x z ab:=hr;rw[<- hr]at hT
 . (refine cu ?_;conv=>whnf)
   repeat' (first
    |(refine cO ?_;conv=>whnf)
    |(refine⟨[3,4,100034,90032,90040,90041],_,hB,⟨rfl,rfl,rfl⟩,?_⟩;(conv=>whnf);refine aL ?_;(conv=>arg 2;arg 1;reduce);(conv=>whnf))
    |(refine⟨[3,4,8,100034,90032,90040,90041],_,hB,⟨rfl,rfl,rfl⟩,?_⟩;(conv=>whnf);refine aL ?_;(conv=>arg 2;arg 1;reduce);(conv=>whnf))
    |(refine⟨[3,4],_,hS,⟨rfl,rfl,rfl⟩,?_⟩;(conv=>whnf);refine aL ?_;(conv=>arg 2;arg 1;reduce);(conv=>whnf))
    |(refine⟨[3,4,8],_,hS,⟨rfl,rfl,rfl⟩,?_⟩;(conv=>whnf);refine aL ?_;(conv=>arg 2;arg 1;reduce);(conv=>whnf))
    |(refine And.intro ?_ ?_ <;> (conv=>whnf)))
   all_goals exact fV hT (aq.keep)
def gT(x:bA)(l:List ao):List ao:=(l.filter λp=>(p.ah.af==x.ah)&& !x.ay.contains p.host).map λp=>⟨p.host,⟨x.ah,[]⟩⟩
theorem GA(x:bA)(l:List ao):(gT x l).length<=l.length:=by
 unfold gT;rw[aA];exact List.length_filter_le ..
def DS(o:bz)(x:bA):bz:=cy {cy o with aF:=gT x o.w.ai}
noncomputable def iY:Cx:={cx with chg:=gX [(112,10),(113,10),(117,10),(111,9),(114,9),(122,9),(118,9),(116,9),(120,9),(119,9),(115,9)]}
theorem Vo:bD iY:=bo
theorem SX:iY.P.follows .mixedOrders=true:=mixed
def PW:Nat->List Nat:=fun|1=>[33333]|2=>[55555]|3=>[33333]|7=>[33333]|8=>[33333]|10=>[33333]|11=>[33333,55555]|12=>[33333,55555]|13=>[33333,55555]|14=>[33333,55555]|15=>[33333,55555]|16=>[55555]|20=>[33333]|22=>[33333,55555]|_=>[]
noncomputable abbrev NN:Code:=(Tryz.f64).body.getD .skip
noncomputable abbrev Uk:List ResultVar:=(Tryz.f64).results.toList
theorem KZ(o:bz)(x:bA)(hn:o.w.ai.length<=1000)(hl:x.ay.length<=1000)(hp:o.aF.length<=100000)(hs:o.bp.length<=100)(kg:∀a,(bW o.got a).length<=1000)(xj:∀p∈o.aF,p.ah.ak.length<=100000)(za:∀p∈o.aF,jO o.w o.got p=false) :
 vcp iY [100003] pvW 122 PW (λ_=>jb (some (DS o x))=none) ((gL 15 NN).getD .skip) (nI iY [100003] Uk (jb (some (DS o x))))
  ⟨[(0,.ptr 100034 0),(3,.ptr 3 0)],(3,.box ((bj x).map .d))::bH o⟩:=by
 conv=>whnf
 refine⟨_,aq.refl _,?_⟩;conv=>whnf
 have kn:=lift (cx' :=iY) (kY o hn hp (by omega) kg xj za) rfl rfl;refine⟨[3],_,kn,⟨rfl,rfl,rfl⟩,?_⟩;conv=>whnf
 refine aL ?_;conv=>whnf
 have xM:(cy o).bp.length<=101:=oO hs;have hE:DS o x=cy {cy o with aF:=gT x o.w.ai}:=rfl;have kL:(cy o).w=o.w:=rfl;have xn:(cy o).aF=[]:=rfl;have xx:∀a,(bW (cy o).got a).length<=1000:=kg;refine⟨_,aq.keep (sl:=[(0,.ptr 100034 0),(3,.ptr 3 0)]) (h:=(3,.box ((bj x).map .d))::bH (cy o)),?_⟩;rw[hE];generalize cy o=o1 at xM kL xn xx ⊢;rw[<- kL];rw[<- kL]at hn;conv=>whnf
 refine⟨Nat×List ao,λq=>⟨[(0,.ptr 100034 0),(3,.ptr 3 0),(93,.d (.slice 3 (o1.w.ai.map aR))),(94,.d (.int .i64 ((o1.w.ai.map aR).length:Int))),(95,.d (.int .i64 q.1))],(3,.box ((bj x).map .d))::bH {o1 with aF:=q.2}⟩,
  λq=>q.1<=o1.w.ai.length/\q.2++gT x (o1.w.ai.drop q.1)=gT x o1.w.ai/\q.2.length<=q.1,λq=>o1.w.ai.length-q.1,⟨(0,[]),⟨Nat.zero_le _,rfl,Nat.le_refl _⟩,aq.keep (by repeat' (first|exact trivial|refine⟨⟨rfl,rfl⟩,?_⟩)) ⟨⟨rfl,rfl⟩,⟨rfl,rfl⟩,⟨rfl,rfl⟩,⟨congrArg (λr:List ao=>some (Blk.row 45 3 (r.map aR))) xn,rfl⟩,⟨rfl,rfl⟩,trivial⟩⟩,?_⟩
 rintro⟨k,ps⟩ ⟨hk,hs,yf⟩;dsimp only at hk hs yf;conv=>whnf
 refine aj (λh1=>?_) (λh1=>?_) <;> (rw[h1];conv=>whnf)
 .have hJ:k<o1.w.ai.length:=by simp at h1;omega
  obtain⟨p,kh⟩:∃p,o1.w.ai[k]? =some p:=⟨_,au hJ⟩
  have hd:gT x (o1.w.ai.drop k)=(if ((p.ah.af==x.ah)&& !x.ay.contains p.host)=true then[⟨p.host,⟨x.ah,[]⟩⟩]else[])++gT x (o1.w.ai.drop (k+1)):=by
   rw[drop_cons kh];unfold gT;rw[List.filter_cons];split <;> rfl
  rw[hd, <- List.append_assoc]at hs;have again:((p.ah.af==x.ah)&& !x.ay.contains p.host)=false->ps++gT x (o1.w.ai.drop (k+1))=gT x o1.w.ai:=λh=>by rw[if_neg (by rw[h];decide),List.append_nil]at hs;exact hs
  refine⟨aC k,aR p,aM kh,?_⟩;conv=>whnf
  refine aj (λh2=>?_) (λh2=>?_) <;> (rw[h2];conv=>whnf)
  . (refine⟨_,_,kX x.ay p.host (by omega),?_⟩;conv=>whnf)
    cases hc:x.ay.contains p.host with
    |true =>
     conv=>whnf
     exact⟨(k+1,ps),⟨hJ,again (by rw[hc];simp),by dsimp only;omega⟩,by(show o1.w.ai.length-(k+1)<o1.w.ai.length-k;omega),aq.keep ⟨ae,ae,ae,ae,⟨ax (k:=k) (by omega),rfl⟩,trivial⟩⟩
    |false =>
     conv=>whnf
     rw[if_pos (by rw[hc];simpa using h2)]at hs;have hP:=lift (cx' :=iY) (Gz {o1 with aF:=ps} p.host x.ah (by dsimp only;omega)) rfl rfl;refine⟨[3,11],_,hP,⟨rfl,rfl,rfl⟩,?_⟩;conv=>whnf
     refine aL ?_;conv=>whnf
     exact⟨(k+1,ps++[⟨p.host,⟨x.ah,[]⟩⟩]),⟨hJ,hs,by simp;omega⟩,by(show o1.w.ai.length-(k+1)<o1.w.ai.length-k;omega),aq.keep ⟨ae,ae,ae,ae,⟨ax (k:=k) (by omega),rfl⟩,trivial⟩⟩
  .exact⟨(k+1,ps),⟨hJ,again (by rw[show(p.ah.af==x.ah)=false from h2];rfl),by dsimp only;omega⟩,by(show o1.w.ai.length-(k+1)<o1.w.ai.length-k;omega),aq.keep ⟨ae,ae,ae,ae,⟨ax (k:=k) (by omega),rfl⟩,trivial⟩⟩
 .obtain rfl:k=o1.w.ai.length:=by simp at h1;omega
  rw[List.drop_length]at hs;have hs:ps=gT x o1.w.ai:=by rw[<- hs];exact(List.append_nil _).symm
  have ko:=GA x o1.w.ai;subst hs;have kn:=lift (cx' :=iY) (kY {o1 with aF:=gT x o1.w.ai} hn (by dsimp only;omega) (by dsimp only;omega) xx (λp hp=>by
   unfold gT at hp;obtain⟨q,_,rfl⟩:=List.mem_map.1 hp;simp) (λp hp=>by
   dsimp only at hp;unfold gT at hp;obtain⟨q,_,rfl⟩:=List.mem_map.1 hp;exact Em)) rfl rfl
  refine⟨_,aq.keep (sl:=[(0,.ptr 100034 0)]) (h:=bH {o1 with aF:=gT x o1.w.ai}),?_⟩;conv=>whnf
  refine⟨[],_,kn,⟨rfl,rfl,rfl⟩,?_⟩;conv=>whnf
  refine aL ?_;conv=>whnf
  exact .inl ⟨[],aq.keep trivial,rfl⟩
def tk(o:bz)(x:bA)(z:aO):aO:=di o.w o.aP x.ah x.ay (bL z x.ah 2 o.aP (dh o.w x.ay))
def tm(o:bz)(x:bA)(ab:aO):Option bz:=match db o.since o.aN (tk o x o.ah)with
 |none=>none
 |some z1=>(match db o.since o.aN (tk o x ab)with
  |none=>none
  |some z2=>some (DS (aS (aS o z1) z2) x))
theorem sD(w:aZ)(l:List Int):(dh w l).length=l.length:=by
 unfold dh;rw[wH,aA]
theorem sF{o:bz}{z:aO}{p:ao}(h:p∈(aS o z).aF):p∈o.aF\/(p.ah=z/\jO o.w o.got p=false):=by
 have h:p∈o.aF++bT z o.w.ai++dL z (bW o.got z.af):=h;rw[List.append_assoc]at h;rcases List.mem_append.1 h with h|h
 .exact .inl h
 .refine .inr ⟨?_,tJ p h⟩;rcases List.mem_append.1 h with h|h
  .unfold bT at h;obtain⟨q,_,rfl⟩:=List.mem_map.1 h;rfl
  .unfold dL at h;obtain⟨q,_,rfl⟩:=List.mem_map.1 h;rfl
theorem uN(o:bz)(z:aO):(aS o z).aF.length<=o.aF.length+o.w.ai.length+(bW o.got z.af).length:=by
 show(o.aF++bT z o.w.ai++dL z (bW o.got z.af)).length<=_
 have:=Cl z o.w.ai;simp[dL];omega
theorem KY(o:bz)(x:bA)(ab:aO)(hn:o.w.ai.length<=1000)(hl:x.ay.length<=1000)(kF:x.ay≠[])(hh:∀n∈x.ay,bJ o.w n=true)(hp:o.aF=[])(hs:o.bp.length<=100)(kg:∀a,(bW o.got a).length<=1000)(hz:bf o.ah=true)(hY:bf ab=true) :
 vcp iY [100003] pvW 122 PW (λ_=>jb (tm o x ab)=none) ((gL 11 NN).getD .skip) (nI iY [100003] Uk (jb (tm o x ab)))
  ⟨[(0,.ptr 100034 0),(3,.ptr 3 0),(4,.ptr 4 0)],(3,.box ((bj x).map .d))::(4,.box ((aX ab).map .d))::bH o⟩:=by
 conv=>whnf
 refine⟨_,aq.refl _,?_⟩;conv=>whnf
 have ko:=sD o.w x.ay;have kl:dh o.w x.ay≠[]:=λe=>by rw[e]at ko;exact kF (List.eq_nil_of_length_eq_zero ko.symm)
 have hV:=bU (pv' :=pvW) (lift (cx' :=iY) (sC o.w x.ay hl hh) rfl rfl);have hB:=bU (pv' :=pvW) (lift (cx' :=iY) (eG x.ah 2 o.aP (dh o.w x.ay)) rfl rfl);have xm:=lift (cx' :=iY) (Lt o o.ah x.ah 2 o.aP (dh o.w x.ay) x.ah x.ay (dz hz) hh hl (by omega) (λh=>js (pd _ _ _ _ (hU (mq hz) kl)) h)) rfl rfl;obtain⟨r,hr⟩:∃r,r=tm o x ab:=⟨_,rfl⟩
 rw[<- hr];unfold tm tk at hr;generalize dh o.w x.ay=sv at ko kl hV hB xm hr
 (refine cu ?_;conv=>whnf)
 refine⟨[3,4,100034,90032,90040,90041],_,hV,⟨rfl,rfl,rfl⟩,?_⟩;conv=>whnf
 refine aL ?_
 (conv=>arg 2;arg 1;reduce);(conv=>arg 2;arg 2;tactic=>(refine Eq.trans (b:=(3,.box ((bj x).map .d))::(4,.box ((aX ab).map .d))::bH o) ?_ rfl;kernel_rfl))
 conv=>whnf
 repeat (refine cO ?_;conv=>whnf)
 refine⟨[3,4,100034,90032,90040,90041],_,hB,⟨rfl,rfl,rfl⟩,?_⟩;conv=>whnf
 refine aL ?_
 (conv=>arg 2;arg 1;reduce);(conv=>arg 2;arg 2;tactic=>(refine Eq.trans (b:=(3,.box ((bj x).map .d))::(4,.box ((aX ab).map .d))::bH o) ?_ rfl;kernel_rfl))
 conv=>whnf
 repeat (refine cO ?_;conv=>whnf)
 refine⟨_,aq.keep (sl:=[(0,.ptr 100034 0),(3,.ptr 3 0),(4,.ptr 4 0),(8,ll x.ah 2 o.aP sv)]) (h:=(3,.box ((bj x).map .d))::(4,.box ((aX ab).map .d))::bH o),?_⟩;conv=>whnf
 have hG:=bU (pv' :=pvW) (lift (cx' :=iY) (FA o x.ah x.ay) rfl rfl);refine⟨[3,4],_,hG,⟨rfl,rfl,rfl⟩,?_⟩;conv=>whnf
 refine aL ?_;conv=>whnf
 refine⟨_,aq.trans (aq.name 90003 100003 rfl rfl) (aq.keep (sl:=[(0,.ptr 100034 0),(3,.ptr 3 0),(4,.ptr 4 0),(8,ll x.ah 2 o.aP sv),(9,mX x.ay x.ah)]) (h:=(3,.box ((bj x).map .d))::(4,.box ((aX ab).map .d))::gBz o)),?_⟩;conv=>whnf
 clear hV hB hG;cases hq:db o.since o.aN (di o.w o.aP x.ah x.ay (bL o.ah x.ah 2 o.aP sv))with
 |none =>
  rw[hq]at xm hr;subst hr;exact⟨[3,4],_,xm,⟨by kernel_rfl,by kernel_rfl,by kernel_rfl⟩,rfl⟩
 |some z1 =>
 rw[hq]at xm hr;dsimp only at hr;have xl:=dz (iD hq);refine⟨[3,4],_,xm,⟨by kernel_rfl,by kernel_rfl,by kernel_rfl⟩,?_⟩;conv=>whnf
 refine aL ?_
 (conv=>arg 2;arg 1;reduce);(conv=>arg 2;arg 2;tactic=>(refine Eq.trans (b:=(3,.box ((bj x).map .d))::(4,.box ((aX ab).map .d))::gBz o) ?_ rfl;kernel_rfl))
 conv=>whnf
 have kB:=lift (cx' :=iY) (kH o z1 xl hn (by rw[hp];simp) (kg _)) rfl rfl;refine⟨[3,4,100003],_,kB,⟨by kernel_rfl,by kernel_rfl,by kernel_rfl⟩,?_⟩;conv=>whnf
 refine aL ?_
 (conv=>arg 2;arg 1;reduce);(conv=>arg 2;arg 2;tactic=>(refine Eq.trans (b:=(3,.box ((bj x).map .d))::(4,.box ((aX ab).map .d))::gBz (aS o z1)) ?_ rfl;kernel_rfl))
 conv=>whnf
 refine⟨_,aq.keep (sl:=[(0,.ptr 100034 0),(3,.ptr 3 0),(4,.ptr 4 0),(8,ll x.ah 2 o.aP sv),(9,mX x.ay x.ah)]) (h:=(3,.box ((bj x).map .d))::(4,.box ((aX ab).map .d))::gBz (aS o z1)),?_⟩;conv=>whnf
 clear xm kB hq;have xq:=lift (cx' :=iY) (Lu (aS o z1) ab x.ah 2 o.aP sv x.ah x.ay (dz hY) hh hl (by omega) (λh=>js (pd _ _ _ _ (hU (mq hY) kl)) h)) rfl rfl
 change FnP _ _ _ _ _ (nd (gBz (aS o z1)) (db o.since o.aN (di o.w o.aP x.ah x.ay (bL ab x.ah 2 o.aP sv))))at xq
 cases hq:db o.since o.aN (di o.w o.aP x.ah x.ay (bL ab x.ah 2 o.aP sv))with
 |none =>
  rw[hq]at xq hr;subst hr;exact⟨[3,4],_,xq,⟨by kernel_rfl,by kernel_rfl,by kernel_rfl⟩,rfl⟩
 |some z2 =>
 rw[hq]at xq hr;dsimp only at hr;have yJ:=dz (iD hq);refine⟨[3,4],_,xq,⟨by kernel_rfl,by kernel_rfl,by kernel_rfl⟩,?_⟩;conv=>whnf
 refine aL ?_
 (conv=>arg 2;arg 1;reduce);(conv=>arg 2;arg 2;tactic=>(refine Eq.trans (b:=(3,.box ((bj x).map .d))::(4,.box ((aX ab).map .d))::gBz (aS o z1)) ?_ rfl;kernel_rfl))
 conv=>whnf
 have kj:=uN o z1;have kM:=kg z1.af;have kT:=kg z2.af;rw[hp]at kj;simp only[List.length_nil]at kj;have kB:=lift (cx' :=iY) (kH (aS o z1) z2 yJ hn (by omega) (kg _)) rfl rfl;refine⟨[3,4,100003],_,kB,⟨by kernel_rfl,by kernel_rfl,by kernel_rfl⟩,?_⟩;conv=>whnf
 refine aL ?_
 (conv=>arg 2;arg 1;reduce);(conv=>arg 2;arg 2;tactic=>(refine Eq.trans (b:=(3,.box ((bj x).map .d))::(4,.box ((aX ab).map .d))::gBz (aS (aS o z1) z2)) ?_ rfl;kernel_rfl))
 conv=>whnf
 have kx:(aS (aS o z1) z2).aF.length<=100000:=by
  have:=uN (aS o z1) z2;have h1:(aS o z1).w.ai.length=o.w.ai.length:=rfl;have h2:(bW (aS o z1).got z2.af).length=(bW o.got z2.af).length:=rfl;omega
 have kU:∀p∈(aS (aS o z1) z2).aF,(p.ah=z2\/p.ah=z1)/\jO o.w o.got p=false:=λp h=>by
  rcases sF h with h|⟨h1,h2⟩
  .rcases sF h with h|⟨h1,h2⟩
   .rw[hp]at h;cases h
   .exact⟨.inr h1,h2⟩
  .exact⟨.inl h1,h2⟩
 have hT:=KZ (aS (aS o z1) z2) x hn hl kx hs kg (λp h=>by
  rcases (kU p h).1 with e|e
  .rw[e];have:=yJ.1;omega
  .rw[e];have:=xl.1;omega) (λp h=>(kU p h).2)
 conv at hT=>whnf
 rw[<- hr]at hT;exact fV hT (aq.keep)
theorem qY{α:Type}(a b:List UInt8)(v:α):∀g:List (List UInt8×α),bG a (cM b v g)=if a=b then some v else bG a g
 |[]=>by
  show(if a=b then some v else none)=_
  rfl
 |(k,x)::t=>by
  have:=qY a b v t;show bG a (if b=k then(k,v)::t else(k,x)::cM b v t)=if a=b then some v else(if a=k then some x else bG a t)
  by_cases h:b=k
  .subst h;rw[if_pos rfl];show(if a=b then some v else bG a t)=_
   by_cases h2:a=b
   .rw[if_pos h2,if_pos h2]
   .rw[if_neg h2,if_neg h2,if_neg h2]
  .rw[if_neg h];show(if a=k then some x else bG a (cM b v t))=_
   rw[this];by_cases h2:a=k
   .subst h2;rw[if_pos rfl,if_neg (λe=>h e.symm),if_pos rfl]
   .rw[if_neg h2,if_neg h2]
theorem pg(w:aZ):∀(l:List ao) (g:List (Bs×List Int)) (a:Bs),(bW (dE w g l) a).length<=(bW g a).length+l.length
 |[],g,a=>Nat.le_refl _
 |p::t,g,a=>by
  have h1:=pg w t (kv w g p) a;have h2:(bW (kv w g p) a).length<=(bW g a).length+1:=by
   unfold kv;split
   .unfold bW;rw[qY];split
    .rename_i e;subst e;show((bG p.ah.af g).getD []++[p.host]).length<=_
     simp
    .omega
   .omega
  show(bW (dE w (kv w g p) t) a).length<=_
  simp only[List.length_cons];omega
def eE(o:bz)(x:bA)(l:List Int):List ao:=(l.filter λn=> !o.w.ai.any (fb n x.ah)).map λn=>⟨n,o.ah⟩
theorem Jj(o:bz)(x:bA)(l:List Int):(eE o x l).length<=l.length:=by
 unfold eE;rw[aA];exact List.length_filter_le ..
def rK(o:bz)(x:bA):Option bz:=if (cH o.w.ai x.ah).2=true then tm (eH {o with aF:=eE o x x.ay}) x (cH o.w.ai x.ah).1 else none
theorem Qv(o:bz)(x:bA)(hv:∀p∈o.w.ai,bf p.ah=true)(hn:o.w.ai.length<=1000)(hz:bf o.ah=true)(yh:o.aF=[])(yG:o.bp.length<=50)(kK:o.got=[])(hl:x.ay.length<=1000)(kF:x.ay≠[])(hh:∀n∈x.ay,bJ o.w n=true):FnP iY pvW 64 [.ptr 100034 0,.agg ((bj x).map .d)] (bH o) (jb (rK o x)):=by
 refine bt [100003] PW Vo SX Tryz.func64 ?_;conv=>whnf
 obtain⟨r,hr⟩:∃r,r=rK o x:=⟨_,rfl⟩
 rw[<- hr];unfold rK at hr;have hA:=bU (pv' :=pvW) (lift (cx' :=iY) (rp o.w x.ah hv (by omega)) rfl rfl);have xc:=xP (a:=x.ah) hv;generalize cH o.w.ai x.ah=ab at hA hr xc;obtain⟨ab,b⟩:=ab;dsimp only at hA hr xc;apply sU (α:=Unit) (P:=λ_=>True) (canon:=λ_=>⟨[(0,.ptr 100034 0),(3,.ptr 3 0),(4,.ptr 4 0),(5,.d (.bool b))],(3,.box ((bj x).map .d))::(4,.box ((aX ab).map .d))::bH o⟩)
 .intro rest
  (refine cu ?_;conv=>whnf)
  repeat' (first
   |(refine cO ?_;conv=>whnf)
   |(refine⟨[3,100034,90032,90040,90041],_,hA,⟨rfl,rfl,rfl⟩,?_⟩;(conv=>whnf);refine aL ?_;(conv=>whnf))
   |(refine⟨[3,4,100034,90032,90040,90041],_,hA,⟨rfl,rfl,rfl⟩,?_⟩;(conv=>whnf);refine aL ?_;(conv=>whnf))
   |(refine And.intro ?_ ?_ <;> (conv=>whnf)))
  all_goals exact nj (aq.keep) (rest () trivial)
 rintro _ _;unfold App;conv=>whnf
 cases b with
 |false =>
  rw[if_neg (by decide)]at hr;subst hr;conv=>whnf
  have hF:=lift (cx' :=iY) (ku 4 (by decide)) rfl rfl;exact⟨[3,4,100034,90032,90040,90041],_,hF,⟨rfl,rfl,rfl⟩,rfl⟩
 |true =>
 rw[if_pos rfl]at hr;conv=>whnf
 clear hA;refine⟨Nat×List ao,λq=>⟨[(0,.ptr 100034 0),(3,.ptr 3 0),(4,.ptr 4 0),(25,.d (.slice 1 (x.ay.map dj))),(26,.d (.int .i64 ((x.ay.map dj).length:Int))),(27,.d (.int .i64 q.1))],(3,.box ((bj x).map .d))::(4,.box ((aX ab).map .d))::bH {o with aF:=q.2}⟩,
  λq=>q.1<=x.ay.length/\q.2++eE o x (x.ay.drop q.1)=eE o x x.ay/\q.2.length<=q.1,λq=>x.ay.length-q.1,⟨(0,[]),⟨Nat.zero_le _,rfl,Nat.le_refl _⟩,aq.keep (by repeat' (first|exact trivial|refine⟨⟨rfl,rfl⟩,?_⟩)) ⟨⟨rfl,rfl⟩,⟨rfl,rfl⟩,⟨rfl,rfl⟩,⟨rfl,rfl⟩,⟨congrArg (λr:List ao=>some (Blk.row 45 3 (r.map aR))) yh,rfl⟩,⟨rfl,rfl⟩,trivial⟩⟩,?_⟩
 rintro⟨k,ps⟩ ⟨hk,hs,yf⟩;dsimp only at hk hs yf;conv=>whnf
 refine aj (λh1=>?_) (λh1=>?_) <;> (rw[h1];conv=>whnf)
 .have hJ:k<x.ay.length:=by simp at h1;omega
  obtain⟨n,kG⟩:∃n,x.ay[k]? =some n:=⟨_,au hJ⟩
  have hd:eE o x (x.ay.drop k)=(if (!o.w.ai.any (fb n x.ah))=true then[⟨n,o.ah⟩]else[])++eE o x (x.ay.drop (k+1)):=by
   rw[drop_cons kG];unfold eE;rw[List.filter_cons];split <;> rfl
  rw[hd, <- List.append_assoc]at hs;refine⟨aC k,dj n,aM kG,?_⟩;conv=>whnf
  have hC:=bU (pv' :=pvW) (lift (cx' :=iY) (kZ o.w n x.ah (by omega)) rfl rfl);generalize o.w.ai.any (fb n x.ah)=c at hC hs
  (refine cu ?_;conv=>whnf)
  refine⟨[3,4,100034,90032,90040,90041],_,hC,⟨rfl,rfl,rfl⟩,?_⟩;conv=>whnf
  refine aL ?_;conv=>whnf
  cases c with
  |true =>
   rw[if_neg (by decide),List.append_nil]at hs;conv=>whnf
   exact⟨(k+1,ps),⟨hJ,hs,by dsimp only;omega⟩,by(show x.ay.length-(k+1)<x.ay.length-k;omega),aq.keep ⟨ae,ae,ae,ae,ae,⟨ax (k:=k) (by omega),rfl⟩,trivial⟩⟩
  |false =>
   rw[if_pos (by decide)]at hs;conv=>whnf
   have hP:=lift (cx' :=iY) (qp {o with aF:=ps} n o.ah (dz hz) (by dsimp only;omega)) rfl rfl;refine⟨[3,4],_,hP,⟨rfl,rfl,rfl⟩,?_⟩;conv=>whnf
   refine aL ?_;conv=>whnf
   exact⟨(k+1,ps++[⟨n,o.ah⟩]),⟨hJ,hs,by simp;omega⟩,by(show x.ay.length-(k+1)<x.ay.length-k;omega),aq.keep ⟨ae,ae,ae,ae,ae,⟨ax (k:=k) (by omega),rfl⟩,trivial⟩⟩
 .obtain rfl:k=x.ay.length:=by simp at h1;omega
  rw[List.drop_length]at hs;have hs:ps=eE o x x.ay:=by rw[<- hs];exact(List.append_nil _).symm
  have kg:=Jj o x x.ay;subst hs;have xj:∀p∈eE o x x.ay,p.ah=o.ah:=λp hp=>by
   unfold eE at hp;obtain⟨q,_,rfl⟩:=List.mem_map.1 hp;rfl
  have kn:=lift (cx' :=iY) (yd {o with aF:=eE o x x.ay} o.ah.af hn (by dsimp only;omega) (by dsimp only;omega) kK (λp hp=>by rw[xj p hp];have:=(dz hz).1;omega) (λp hp=>by rw[xj p hp])) rfl rfl;rw[Ac]at kn;refine⟨[3,4],_,kn,⟨rfl,rfl,rfl⟩,?_⟩;conv=>whnf
  refine aL ?_;conv=>whnf
  have hT:=KY (eH {o with aF:=eE o x x.ay}) x ab hn hl kF hh rfl (by
   show(o.bp++_).length<=100
   rw[List.length_append];split <;> simp <;> omega) (λa=>by
   have:=pg o.w (eE o x x.ay) o.got a;have e:bW o.got a=[]:=by rw[kK];rfl
   rw[e]at this;show(bW (dE o.w o.got (eE o x x.ay)) a).length<=1000
   simp at this;omega) hz (xc rfl)
  conv at hT=>whnf
  rw[<- hr]at hT;exact fV hT (aq.keep)
end Go.Proofs.YtodofogcincleaaGreatDoor
namespace NQ
open Go Go.RowKit
theorem FnP.Rt{cx:Cx}{pv:Int->Value}{f:FuncId}{args:List AV}{ds:List D}{h:List (Nat×Blk)}{out:Option (AV×List (Nat×Blk))}(e:cA ir args=some ds)(hf:FnP cx pv f (ds.map AV.d) h out):FnP cx pv f args h out:=by
 obtain⟨e1,e2⟩:=cD e;refine⟨hf.1,λO w σ vs hO hG kA kt hH kQ ki=>hf.2 O w σ vs hO hG kA kt hH (by rw[aA,e1];exact kQ) λj c hj=>?_⟩;rw[bc]at hj;cases hd:ds[j]? with
 |none=>rw[hd]at hj;cases hj
 |some d =>
  rw[hd]at hj;cases hj;obtain⟨c,hc,yP⟩:=e2 j d hd;exact .d _ _ (jr yP (ki j c hc))
end NQ
namespace Go.Proofs.YtodofogcincleaaGreatDoor
open NQ Go.RowKit
def Lh(x:bA)(s:Signed):Bool:=(bK s.set.name x.name).1
def dZ(part:aO)(l:List Int):List ao:=l.map λn=>⟨n,part⟩
def Gw(o:bz)(x:bA):aO:=di o.w o.aP x.name x.ay (bL (bL (sy (Lh x) o.ah) x.name 2 o.aP (dh o.w x.ay)) x.name 6 o.aP (keyOf x))
def qw(o:bz)(x:bA):Option bz:=match db o.since o.aN (Gw o x)with
 |none=>none
 |some z=>some (cy (aS o z))
def qv(o:bz)(x:bA)(part:aO):Option bz:=qw (eH {o with aF:=dZ part x.ay}) x
attribute [local irreducible] NQ.FnP
noncomputable def eX:Cx:={cx with chg:=gX [(117,10),(123,9),(132,9),(195,9),(131,9),(63,11),(111,9),(114,9),(118,9),(116,9),(120,9),(119,9),(115,9)],bld:=[74]}
theorem Vr:bD eX:=bo
theorem Ta:eX.P.follows .mixedOrders=true:=mixed
def Fy:Nat->List Nat:=fun|1=>[33333]|2=>[33333,55555]|4=>[33333,55555,3]|5=>[55555]|10=>[33333,55555]|11=>[33333]|12=>[33333,55555,90020]|13=>[55555]|16=>[33333]|18=>[33333,55555]|19=>[33333,55555]|20=>[33333]|_=>[]
noncomputable abbrev Bg:Code:=(Tryz.f67).body.getD .skip
noncomputable abbrev LH:List ResultVar:=(Tryz.f67).results.toList
theorem GW(F:FuncId)(x:bA):FnP cxW pv0 132 [.d (.fn F [] [.ptr (bj x)])] [] (some (woA F x,[])):=by
 refine bt [] (fun|1=>[1]|_=>[]) tyW tj Tryz.func132 ?_;conv=>whnf
 exact iQ rfl rfl rfl
theorem yz(F:FuncId)(x:bA):FnP cxW pv0 132 [.fn F [] [.d (.ptr (bj x))]] [] (some (woA F x,[])):=FnP.Rt (ds:=[.fn F [] [.ptr (bj x)]]) rfl (GW F x)
theorem Iw(o:bz)(x:bA)(hn:o.w.ai.length<=1000)(hl:x.ay.length<=1000)(kF:x.ay≠[])(hh:∀n∈x.ay,bJ o.w n=true)(hp:o.aF=[])(hs:o.bp.length<=100)(kg:∀a,(bW o.got a).length<=1000)(hz:bf o.ah=true) :
 vcp eX [100003,100004] pvW 135 Fy (λ_=>jb (qw o x)=none) ((gL 19 Bg).getD .skip) (nI eX [100003,100004] LH (jb (qw o x)))
  ⟨[(0,.ptr 100034 0),(3,.d (.ptr (bj x))),(7,.d (.slice 3 ((dh o.w x.ay).map aQ))),(8,mX x.ay x.name)],gBz o⟩:=by
 conv=>whnf
 refine⟨_,aq.refl _,?_⟩;conv=>whnf
 obtain⟨r,hr⟩:∃r,r=qw o x:=⟨_,rfl⟩
 rw[<- hr];have ko:=sD o.w x.ay;have kl:dh o.w x.ay≠[]:=λe=>by rw[e]at ko;exact kF (List.eq_nil_of_length_eq_zero ko.symm)
 have hS:=lift (cx' :=eX) (Lw o o.ah (Lh x) x x.name 2 o.aP (dh o.w x.ay) 6 (keyOf x) x.name x.ay (dz hz) hh hl (by omega) (by simp[keyOf]) (λs=>IK s x) (λh=>js (pd _ _ _ _ (hU (hU (PU _ (mq hz)) kl) (by simp[keyOf]))) h)) rfl rfl;unfold qw Gw at hr;generalize dh o.w x.ay=sv at ko kl hS hr ⊢;have hW:=bU (pv' :=pvW) (lift (cx' :=eX) (yz 135 x) rfl rfl);have hK:=bU (pv' :=pvW) (lift (cx' :=eX) (oP x.key) rfl rfl);have hB:=bU (pv' :=pvW) (lift (cx' :=eX) (eG x.name 2 o.aP sv) rfl rfl);have yq:=bU (pv' :=pvW) (lift (cx' :=eX) (eG x.name 6 o.aP (keyOf x)) rfl rfl)
 cases hq:db o.since o.aN (di o.w o.aP x.name x.ay (bL (bL (sy (Lh x) o.ah) x.name 2 o.aP sv) x.name 6 o.aP (keyOf x)))with
 |none =>
  rw[hq]at hS hr;subst hr
  (refine cu ?_;conv=>whnf)
  repeat' (first
  |(refine cO ?_;conv=>whnf)
  |(refine⟨[100003,100034,90032,90040,90041],_,hW,⟨rfl,rfl,rfl⟩,?_⟩;(conv=>whnf);refine aL ?_;((conv=>arg 2;arg 1;reduce);(conv=>arg 2;arg 2;tactic=>(refine Eq.trans (b:=gBz o) ?_ rfl;kernel_rfl)));(conv=>whnf))
  |(refine⟨[100003,100034,90032,90040,90041],_,hK,⟨rfl,rfl,rfl⟩,?_⟩;(conv=>whnf);refine aL ?_;((conv=>arg 2;arg 1;reduce);(conv=>arg 2;arg 2;tactic=>(refine Eq.trans (b:=gBz o) ?_ rfl;kernel_rfl)));(conv=>whnf))
  |(refine⟨[100003,100034,90032,90040,90041],_,hB,⟨rfl,rfl,rfl⟩,?_⟩;(conv=>whnf);refine aL ?_;((conv=>arg 2;arg 1;reduce);(conv=>arg 2;arg 2;tactic=>(refine Eq.trans (b:=gBz o) ?_ rfl;kernel_rfl)));(conv=>whnf))
  |(refine⟨[100003,100034,90032,90040,90041],_,yq,⟨rfl,rfl,rfl⟩,?_⟩;(conv=>whnf);refine aL ?_;((conv=>arg 2;arg 1;reduce);(conv=>arg 2;arg 2;tactic=>(refine Eq.trans (b:=gBz o) ?_ rfl;kernel_rfl)));(conv=>whnf))
  |exact⟨[],_,hS,⟨by kernel_rfl,by kernel_rfl,by kernel_rfl⟩,rfl⟩
  |(refine And.intro ?_ ?_ <;> (conv=>whnf)))
 |some z =>
 rw[hq]at hS hr;dsimp only at hr;have xl:=dz (iD hq);have kB:=lift (cx' :=eX) (kH o z xl hn (by rw[hp];simp) (kg _)) rfl rfl;have kj:=uN o z;have kM:=kg z.af;rw[hp]at kj;simp only[List.length_nil]at kj;have kU:∀p∈(aS o z).aF,p.ah=z/\jO o.w o.got p=false:=λp h=>by
  rcases sF h with h|h
  .rw[hp]at h;cases h
  .exact h
 have kn:=lift (cx' :=eX) (kY (aS o z) hn (by omega) (by show o.bp.length<=1000;omega) kg (λp h=>by rw[(kU p h).1];have:=xl.1;omega) (λp h=>(kU p h).2)) rfl rfl
 (refine cu ?_;conv=>whnf)
 repeat' (first
  |(refine cO ?_;conv=>whnf)
  |(refine⟨[100003,100034,90032,90040,90041],_,hW,⟨rfl,rfl,rfl⟩,?_⟩;(conv=>whnf);refine aL ?_;((conv=>arg 2;arg 1;reduce);(conv=>arg 2;arg 2;tactic=>(refine Eq.trans (b:=gBz o) ?_ rfl;kernel_rfl)));(conv=>whnf))
  |(refine⟨[100003,100034,90032,90040,90041],_,hK,⟨rfl,rfl,rfl⟩,?_⟩;(conv=>whnf);refine aL ?_;((conv=>arg 2;arg 1;reduce);(conv=>arg 2;arg 2;tactic=>(refine Eq.trans (b:=gBz o) ?_ rfl;kernel_rfl)));(conv=>whnf))
  |(refine⟨[100003,100034,90032,90040,90041],_,hB,⟨rfl,rfl,rfl⟩,?_⟩;(conv=>whnf);refine aL ?_;((conv=>arg 2;arg 1;reduce);(conv=>arg 2;arg 2;tactic=>(refine Eq.trans (b:=gBz o) ?_ rfl;kernel_rfl)));(conv=>whnf))
  |(refine⟨[100003,100034,90032,90040,90041],_,yq,⟨rfl,rfl,rfl⟩,?_⟩;(conv=>whnf);refine aL ?_;((conv=>arg 2;arg 1;reduce);(conv=>arg 2;arg 2;tactic=>(refine Eq.trans (b:=gBz o) ?_ rfl;kernel_rfl)));(conv=>whnf))
  |(refine⟨[],_,hS,⟨by kernel_rfl,by kernel_rfl,by kernel_rfl⟩,?_⟩;(conv=>whnf);refine aL ?_;((conv=>arg 2;arg 1;reduce);(conv=>arg 2;arg 2;tactic=>(refine Eq.trans (b:=gBz o) ?_ rfl;kernel_rfl)));(conv=>whnf))
  |(refine⟨[100003],_,kB,⟨by kernel_rfl,by kernel_rfl,by kernel_rfl⟩,?_⟩;(conv=>whnf);refine aL ?_;((conv=>arg 2;arg 1;reduce);(conv=>arg 2;arg 2;tactic=>(refine Eq.trans (b:=gBz (aS o z)) ?_ rfl;kernel_rfl)));(conv=>whnf))
  |(refine⟨[100003],_,kn,⟨by kernel_rfl,by kernel_rfl,by kernel_rfl⟩,?_⟩;(conv=>whnf);refine aL ?_;((conv=>arg 2;arg 1;reduce);(conv=>arg 2;arg 2;tactic=>(refine Eq.trans (b:=gBz (cy (aS o z))) ?_ rfl;kernel_rfl)));(conv=>whnf))
  |(refine And.intro ?_ ?_ <;> (conv=>whnf)))
 all_goals subst hr
 all_goals exact .inl ⟨[],aq.keep trivial,rfl⟩
theorem Iv(o:bz)(x:bA)(part:aO)(xj:ZSm part)(hn:o.w.ai.length<=1000)(hl:x.ay.length<=1000)(kF:x.ay≠[])(hh:∀n∈x.ay,bJ o.w n=true)(hp:o.aF=[])(hs:o.bp.length<=50)(kK:o.got=[])(hz:bf o.ah=true) :
 vcp eX [100003,100004] pvW 135 Fy (λ_=>jb (qv o x part)=none) ((gL 13 Bg).getD .skip) (nI eX [100003,100004] LH (jb (qv o x part)))
  ⟨[(0,.ptr 100034 0),(3,.d (.ptr (bj x))),(5,.ptr 100004 0),(7,.d (.slice 3 ((dh o.w x.ay).map aQ))),(8,mX x.ay x.name)],(100004,.box ((aX part).map .d))::gBz o⟩:=by
 conv=>whnf
 refine⟨_,aq.refl _,?_⟩;conv=>whnf
 generalize xF:dh o.w x.ay=sv
 refine⟨Nat,λk=>⟨[(0,.ptr 100034 0),(3,.d (.ptr (bj x))),(5,.ptr 100004 0),(7,.d (.slice 3 (sv.map aQ))),(8,mX x.ay x.name),(90,.d (.slice 1 (x.ay.map dj))),(91,.d (.int .i64 ((x.ay.map dj).length:Int))),(92,.d (.int .i64 k))],(100004,.box ((aX part).map .d))::gBz {o with aF:=dZ part (x.ay.take k)}⟩,
  λk=>k<=x.ay.length,λk=>x.ay.length-k,⟨0,Nat.zero_le _,aq.keep (by repeat' (first|exact trivial|refine⟨⟨rfl,rfl⟩,?_⟩)) ⟨⟨rfl,rfl⟩,⟨rfl,rfl⟩,⟨rfl,rfl⟩,⟨rfl,rfl⟩,⟨congrArg (λr:List ao=>some (Blk.row 45 3 (r.map aR))) hp,rfl⟩,⟨rfl,rfl⟩,trivial⟩⟩,λk hk=>?_⟩
 conv=>whnf
 refine aj (λh1=>?_) (λh1=>?_) <;> (rw[h1];conv=>whnf)
 .have hJ:k<x.ay.length:=by simp at h1;omega
  obtain⟨n,kG⟩:∃n,x.ay[k]? =some n:=⟨_,au hJ⟩
  refine⟨aC k,dj n,aM kG,?_⟩;conv=>whnf
  have hP:=lift (cx' :=eX) (qp {o with aF:=dZ part (x.ay.take k)} n part xj (by simp[dZ];omega)) rfl rfl;refine⟨[100003,100004],_,hP,⟨rfl,rfl,rfl⟩,?_⟩;conv=>whnf
  refine aL ?_;conv=>whnf
  have e:dZ part (x.ay.take k)++[⟨n,part⟩]=dZ part (x.ay.take (k+1)):=by
   unfold dZ;rw[List.take_add_one,kG];simp
  exact⟨k+1,hJ,by(show x.ay.length-(k+1)<x.ay.length-k;omega),aq.keep ⟨ae,ae,ae,ae,ae,ae,ae,⟨ax (k:=k) (by omega),rfl⟩,trivial⟩ ⟨ae,ae,ae,ae,⟨congrArg (λr:List ao=>some (Blk.row 45 3 (r.map aR))) e,rfl⟩,ae,trivial⟩⟩
 .obtain rfl:k=x.ay.length:=by simp at h1;omega
  have e:dZ part (x.ay.take x.ay.length)=dZ part x.ay:=by rw[List.take_length]
  refine⟨_,aq.keep (sl:=[(0,.ptr 100034 0),(3,.d (.ptr (bj x))),(7,.d (.slice 3 (sv.map aQ))),(8,mX x.ay x.name)]) (h:=gBz {o with aF:=dZ part x.ay}) (by repeat' (first|exact trivial|refine⟨⟨rfl,rfl⟩,?_⟩)) ⟨⟨rfl,rfl⟩,⟨rfl,rfl⟩,⟨rfl,rfl⟩,⟨congrArg (λr:List ao=>some (Blk.row 45 3 (r.map aR))) e,rfl⟩,⟨rfl,rfl⟩,trivial⟩,?_⟩;conv=>whnf
  have kU:∀p∈dZ part x.ay,p.ah=part:=λp h=>by
   unfold dZ at h;obtain⟨q,_,rfl⟩:=List.mem_map.1 h;rfl
  have zj:(dZ part x.ay).length=x.ay.length:=by simp[dZ]
  have kn:=lift (cx' :=eX) (yd {o with aF:=dZ part x.ay} part.af hn (by dsimp only;omega) (by dsimp only;omega) kK (λp h=>by rw[kU p h];have:=xj.1;omega) (λp h=>by rw[kU p h])) rfl rfl;rw[Ac]at kn;refine⟨[100003],_,kn,⟨rfl,rfl,rfl⟩,?_⟩;conv=>whnf
  refine aL ?_;conv=>whnf
  have hT:=Iw (eH {o with aF:=dZ part x.ay}) x hn hl kF hh rfl (by
   show(o.bp++_).length<=100
   rw[List.length_append];split <;> simp <;> omega) (λa=>by
   have:=pg o.w (dZ part x.ay) o.got a;have e:bW o.got a=[]:=by rw[kK];rfl
   rw[e]at this;show(bW (dE o.w o.got (dZ part x.ay)) a).length<=1000
   simp at this;omega) hz
  have yj:dh (eH {o with aF:=dZ part x.ay}).w x.ay=sv:=xF;rw[yj]at hT;conv at hT=>whnf
  exact fV hT (aq.keep)
def AI(x:bA)(s:Signed):Bool:=decide (s.set.type=8)|| !(bK s.set.name x.name).1
def kD(s:Signed):Signed:=⟨s.set,[]⟩
def UW(o:bz)(x:bA):aO:=⟨x.name,(o.ah.ak.filter λs=> !AI x s).map kD⟩
def RU(o:bz)(x:bA)(st:cG):aO:=di o.w o.aP x.name x.ay (bL (bL (bL (UW o x) x.name 2 o.aP (dh o.w x.ay)) x.name 4 st.aP [⟨[],0,(kq st).m⟩]) x.name 7 o.aP (keyOf x))
def wJ(o:bz)(x:bA)(st:cG)(l:List Signed):Option bz:=match db o.since o.aN (di o.w o.aP x.name x.ay (bL (bL (bL ⟨x.name,l.map kD⟩ x.name 2 o.aP (dh o.w x.ay)) x.name 4 st.aP [⟨[],0,(kq st).m⟩]) x.name 7 o.aP (keyOf x)))with
 |none=>none
 |some part=>qv o x part
def rh(o:bz)(x:bA):Option bz:=if (wfR o.ah x.ah 4).2=true then(match db o.since o.aN (RU o x (wfR o.ah x.ah 4).1)with
 |none=>none
 |some part=>qv o x part)else none
theorem LI(o:bz)(x:bA)(st:cG)(m:List Signed)(sv:List Datum)(d0:Datum)(xL:ZSm ⟨x.name,m⟩)(xK:mg ⟨x.name,m⟩)(kc:(st.data.map aQ)[(0:Int).toNat]? =some (aQ d0))(ko:sv.length=x.ay.length)(kl:sv≠[])(xF:dh o.w x.ay=sv)(hn:o.w.ai.length<=1000)(hl:x.ay.length<=1000)(kF:x.ay≠[])(hh:∀n∈x.ay,bJ o.w n=true)(hp:o.aF=[])(hs:o.bp.length<=50)(kK:o.got=[])(hz:bf o.ah=true)(r:Option bz)
 (hr:r=match db o.since o.aN (di o.w o.aP x.name x.ay (bL (bL (bL ⟨x.name,m⟩ x.name 2 o.aP sv) x.name 4 st.aP [⟨[],0,d0.m⟩]) x.name 7 o.aP (keyOf x)))with
  |none=>none
  |some part=>qv o x part) :
 vcp eX [100003,100004] pvW 135 Fy (λ_=>jb r=none) ((gL 12 Bg).getD .skip) (nI eX [100003,100004] LH (jb r))
  ⟨[(0,.ptr 100034 0),(3,.d (.ptr (bj x))),(4,.ptr 4 0),(5,.ptr 100004 0),(7,.d (.slice 3 (sv.map aQ))),(8,mX x.ay x.name)],fU ⟨x.name,m⟩++(4,.box ((cg st).map .d))::gBz o⟩:=by
 conv=>whnf
 refine⟨_,aq.refl _,?_⟩;conv=>whnf
 have hS:=lift (cx' :=eX) (Lv o ⟨x.name,m⟩ x.name 2 o.aP sv 4 st.aP [⟨[],0,d0.m⟩] 7 (keyOf x) x.name x.ay xL hh hl (by omega) (by simp) (by simp[keyOf]) (λh=>js (pd _ _ _ _ (hU (hU (hU xK kl) (by simp)) (by simp[keyOf]))) h)) rfl rfl;have kz:=bU (pv' :=pvW) (lift (cx' :=eX) (eG x.name 2 o.aP sv) rfl rfl);have kS:=bU (pv' :=pvW) (lift (cx' :=eX) (eG x.name 4 st.aP [⟨[],0,d0.m⟩]) rfl rfl);have yr:=bU (pv' :=pvW) (lift (cx' :=eX) (eG x.name 7 o.aP (keyOf x)) rfl rfl);have hK:=bU (pv' :=pvW) (lift (cx' :=eX) (oP x.key) rfl rfl)
 cases hq:db o.since o.aN (di o.w o.aP x.name x.ay (bL (bL (bL ⟨x.name,m⟩ x.name 2 o.aP sv) x.name 4 st.aP [⟨[],0,d0.m⟩]) x.name 7 o.aP (keyOf x)))with
 |none =>
  rw[hq]at hS hr;subst hr
  (refine cu ?_;conv=>whnf)
  repeat' (first
  |(refine cO ?_;conv=>whnf)
  |(refine⟨Int.le_refl 0,aQ d0,kc,?_⟩;conv=>whnf)
  |(refine⟨[4,100003,100004,100034,90032,90040,90041],_,kz,⟨rfl,rfl,rfl⟩,?_⟩;(conv=>whnf);refine aL ?_;((conv=>arg 2;arg 1;reduce);(conv=>arg 2;arg 2;tactic=>(refine Eq.trans (b:=(100004,.box ((aX ⟨x.name,m⟩).map .d))::(4,.box ((cg st).map .d))::gBz o) ?_ rfl;kernel_rfl)));(conv=>whnf))
  |(refine⟨[4,100003,100004,100034,90032,90040,90041],_,kS,⟨rfl,rfl,rfl⟩,?_⟩;(conv=>whnf);refine aL ?_;((conv=>arg 2;arg 1;reduce);(conv=>arg 2;arg 2;tactic=>(refine Eq.trans (b:=(100004,.box ((aX ⟨x.name,m⟩).map .d))::(4,.box ((cg st).map .d))::gBz o) ?_ rfl;kernel_rfl)));(conv=>whnf))
  |(refine⟨[4,100003,100004,100034,90032,90040,90041],_,hK,⟨rfl,rfl,rfl⟩,?_⟩;(conv=>whnf);refine aL ?_;((conv=>arg 2;arg 1;reduce);(conv=>arg 2;arg 2;tactic=>(refine Eq.trans (b:=(100004,.box ((aX ⟨x.name,m⟩).map .d))::(4,.box ((cg st).map .d))::gBz o) ?_ rfl;kernel_rfl)));(conv=>whnf))
  |(refine⟨[4,100003,100004,100034,90032,90040,90041],_,yr,⟨rfl,rfl,rfl⟩,?_⟩;(conv=>whnf);refine aL ?_;((conv=>arg 2;arg 1;reduce);(conv=>arg 2;arg 2;tactic=>(refine Eq.trans (b:=(100004,.box ((aX ⟨x.name,m⟩).map .d))::(4,.box ((cg st).map .d))::gBz o) ?_ rfl;kernel_rfl)));(conv=>whnf))
  |exact⟨[4,100004],_,hS,⟨by kernel_rfl,by kernel_rfl,by kernel_rfl⟩,rfl⟩
  |(refine And.intro ?_ ?_ <;> (conv=>whnf)))
 |some part =>
 rw[hq]at hS hr;dsimp only at hr;have xl:=dz (iD hq);have hT:=Iv o x part xl hn hl kF hh hp hs kK hz;rw[xF, <- hr]at hT;conv at hT=>whnf
 (refine cu ?_;conv=>whnf)
 repeat' (first
  |(refine cO ?_;conv=>whnf)
  |(refine⟨Int.le_refl 0,aQ d0,kc,?_⟩;conv=>whnf)
  |(refine⟨[4,100003,100004,100034,90032,90040,90041],_,kz,⟨rfl,rfl,rfl⟩,?_⟩;(conv=>whnf);refine aL ?_;((conv=>arg 2;arg 1;reduce);(conv=>arg 2;arg 2;tactic=>(refine Eq.trans (b:=(100004,.box ((aX ⟨x.name,m⟩).map .d))::(4,.box ((cg st).map .d))::gBz o) ?_ rfl;kernel_rfl)));(conv=>whnf))
  |(refine⟨[4,100003,100004,100034,90032,90040,90041],_,kS,⟨rfl,rfl,rfl⟩,?_⟩;(conv=>whnf);refine aL ?_;((conv=>arg 2;arg 1;reduce);(conv=>arg 2;arg 2;tactic=>(refine Eq.trans (b:=(100004,.box ((aX ⟨x.name,m⟩).map .d))::(4,.box ((cg st).map .d))::gBz o) ?_ rfl;kernel_rfl)));(conv=>whnf))
  |(refine⟨[4,100003,100004,100034,90032,90040,90041],_,hK,⟨rfl,rfl,rfl⟩,?_⟩;(conv=>whnf);refine aL ?_;((conv=>arg 2;arg 1;reduce);(conv=>arg 2;arg 2;tactic=>(refine Eq.trans (b:=(100004,.box ((aX ⟨x.name,m⟩).map .d))::(4,.box ((cg st).map .d))::gBz o) ?_ rfl;kernel_rfl)));(conv=>whnf))
  |(refine⟨[4,100003,100004,100034,90032,90040,90041],_,yr,⟨rfl,rfl,rfl⟩,?_⟩;(conv=>whnf);refine aL ?_;((conv=>arg 2;arg 1;reduce);(conv=>arg 2;arg 2;tactic=>(refine Eq.trans (b:=(100004,.box ((aX ⟨x.name,m⟩).map .d))::(4,.box ((cg st).map .d))::gBz o) ?_ rfl;kernel_rfl)));(conv=>whnf))
  |(refine⟨[4,100004],_,hS,⟨by kernel_rfl,by kernel_rfl,by kernel_rfl⟩,?_⟩;(conv=>whnf);refine aL ?_;((conv=>arg 2;arg 1;reduce);(conv=>arg 2;arg 2;tactic=>(refine Eq.trans (b:=(100004,.box ((aX ⟨x.name,m⟩).map .d))::(4,.box ((cg st).map .d))::gBz o) ?_ rfl;kernel_rfl)));(conv=>whnf))
  |(refine And.intro ?_ ?_ <;> (conv=>whnf)))
 all_goals exact fV hT (aq.keep)
theorem Ou(o:bz)(x:bA)(st:cG)(l:List Signed)(xY:ZSm ⟨x.name,l⟩)(yQ:mg ⟨x.name,l⟩)(kC:st.data≠[])(hn:o.w.ai.length<=1000)(hl:x.ay.length<=1000)(kF:x.ay≠[])(hh:∀n∈x.ay,bJ o.w n=true)(hp:o.aF=[])(hs:o.bp.length<=50)(kK:o.got=[])(hz:bf o.ah=true) :
 vcp eX [100003,100004] pvW 135 Fy (λ_=>jb (wJ o x st l)=none) ((gL 5 Bg).getD .skip) (nI eX [100003,100004] LH (jb (wJ o x st l)))
  ⟨[(0,.ptr 100034 0),(3,.d (.ptr (bj x))),(4,.ptr 4 0),(5,.ptr 100004 0)],fU ⟨x.name,l⟩++(4,.box ((cg st).map .d))::bH o⟩:=by
 conv=>whnf
 refine⟨_,aq.refl _,?_⟩;conv=>whnf
 obtain⟨r,hr⟩:∃r,r=wJ o x st l:=⟨_,rfl⟩
 rw[<- hr];have zi:l.length<=20000:=xY.1;refine⟨Nat,λk=>⟨[(0,.ptr 100034 0),(3,.d (.ptr (bj x))),(4,.ptr 4 0),(5,.ptr 100004 0),(32,.d (.int .i64 ((l.map aw).length:Int))),(33,.d (.int .i64 k))],fU ⟨x.name,(l.take k).map kD++l.drop k⟩++(4,.box ((cg st).map .d))::bH o⟩,
  λk=>k<=l.length,λk=>l.length-k,⟨0,Nat.zero_le _,aq.keep⟩,λk hk=>?_⟩
 conv=>whnf
 refine aj (λh1=>?_) (λh1=>?_) <;> (rw[h1];conv=>whnf)
 .have hJ:k<l.length:=by simp at h1;omega
  obtain⟨s,xa⟩:∃s,l[k]? =some s:=⟨_,au hJ⟩
  refine⟨aC k,by simp;omega,?_⟩;conv=>whnf
  have xU:(((l.take k).map kD++l.drop k).map aw)[k]? =some (aw s):=by
   rw[bc,cL (by simp;omega)];simp[Nat.min_eq_left (Nat.le_of_lt hJ),xa]
  refine⟨aw s,xU,?_⟩;conv=>whnf
  have e:(((l.take k).map kD++l.drop k).map aw).set k (aw (kD s))=((l.take (k+1)).map kD++l.drop (k+1)).map aw:=by
   rw[<- List.map_set,List.set_append_right _ _ (by simp;omega),drop_cons xa,List.take_add_one,xa];simp[Nat.min_eq_left (Nat.le_of_lt hJ)]
  exact⟨k+1,hJ,by(show l.length-(k+1)<l.length-k;omega),aq.keep ⟨ae,ae,ae,ae,ae,⟨ax (k:=k) (by omega),rfl⟩,trivial⟩ ⟨ae,⟨congrArg (λr=>some (Blk.row 68 5 r)) e,rfl⟩,ae,ae,ae,ae,ae,trivial⟩⟩
 .obtain rfl:k=l.length:=by simp at h1;omega
  have e:((l.take l.length).map kD++l.drop l.length).map aw=(l.map kD).map aw:=by rw[List.take_length,List.drop_length,List.append_nil]
  refine⟨_,aq.keep (sl:=[(0,.ptr 100034 0),(3,.d (.ptr (bj x))),(4,.ptr 4 0),(5,.ptr 100004 0)]) (h:=fU ⟨x.name,l.map kD⟩++(4,.box ((cg st).map .d))::bH o) (by repeat' (first|exact trivial|refine⟨⟨rfl,rfl⟩,?_⟩)) ⟨⟨rfl,rfl⟩,⟨congrArg (λr=>some (Blk.row 68 5 r)) e,rfl⟩,⟨rfl,rfl⟩,⟨rfl,rfl⟩,⟨rfl,rfl⟩,⟨rfl,rfl⟩,⟨rfl,rfl⟩,trivial⟩,?_⟩;unfold wJ at hr;have xL:ZSm ⟨x.name,l.map kD⟩:=⟨by show(l.map kD).length<=_;rw[aA];exact xY.1,λs h=>by
   obtain⟨q,hq,rfl⟩:=List.mem_map.1 h;exact⟨(xY.2 q hq).1,by simp[kD]⟩⟩
  have xK:mg ⟨x.name,l.map kD⟩:=λs h=>by
   obtain⟨q,hq,rfl⟩:=List.mem_map.1 h;exact yQ q hq
  generalize l.map kD=m at xL xK hr ⊢
  conv=>whnf
  have ko:=sD o.w x.ay;have kl:dh o.w x.ay≠[]:=λe=>by rw[e]at ko;exact kF (List.eq_nil_of_length_eq_zero ko.symm)
  have hV:=bU (pv' :=pvW) (lift (cx' :=eX) (sC o.w x.ay hl hh) rfl rfl);obtain⟨d0,dt,kr⟩:∃d t,st.data=d::t:=by
   cases hc:st.data with
   |nil=>exact absurd hc kC
   |cons d t=>exact⟨d,t,rfl⟩
  have xe:kq st=d0:=by unfold kq;rw[kr]
  have kc:(st.data.map aQ)[(0:Int).toNat]? =some (aQ d0):=by rw[kr];rfl
  rw[xe]at hr;generalize xF:dh o.w x.ay=sv at ko kl hV hr
  (refine cu ?_;conv=>whnf)
  refine⟨[4,100004,90020,100034,90032,90040,90041],_,hV,⟨rfl,rfl,rfl⟩,?_⟩;conv=>whnf
  refine aL ?_
  (conv=>arg 2;arg 1;reduce);(conv=>arg 2;arg 2;tactic=>(refine Eq.trans (b:=fU ⟨x.name,m⟩++(4,.box ((cg st).map .d))::bH o) ?_ rfl;kernel_rfl))
  conv=>whnf
  repeat (refine cO ?_;conv=>whnf)
  have hG:=bU (pv' :=pvW) (lift (cx' :=eX) (FA o x.name x.ay) rfl rfl);refine⟨[4,100004,90020],_,hG,⟨rfl,rfl,rfl⟩,?_⟩;conv=>whnf
  refine aL ?_
  (conv=>arg 2;arg 1;reduce)
  conv=>whnf
  have hT:=LI o x st m sv d0 xL xK kc ko kl xF hn hl kF hh hp hs kK hz r hr;conv at hT=>whnf
  exact fV hT (aq.trans (aq.name 90003 100003 rfl rfl) (aq.keep))
end Go.Proofs.YtodofogcincleaaGreatDoor
