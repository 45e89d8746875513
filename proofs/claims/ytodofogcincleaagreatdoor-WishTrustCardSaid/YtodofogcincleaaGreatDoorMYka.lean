/-
  Merged texts.
-/
import Derived.Test.YtodofogcincleaaGreatDoorYkM
import Derived.Test.YtodofogcincleaaGreatDoorMYa
set_option linter.all false
set_option maxHeartbeats 16000000
set_option maxRecDepth 100000
namespace NQ
open Go Go.RowKit
theorem Rb{w:World}{O O' :Nat->Prop}{e:TypeId}{sz:Nat}{rows:List (List D)}{v:Value}{xs:List Value}(h:w.ownsRow 0 e sz v rows.length xs)(hr:∀r∈rows,r.length=sz/\ ∀d∈r,d.one=true)
 (hc:∀i r j d,rows[i]? =some r->r[j]? =some d-> ∃u,xs[i*sz+j]? =some u/\Rep w O d u) (hO:∀b,O' b->O b) (hv:∀b,home v=some b-> ¬O' b):Rep w O' (.slice sz rows) v:=by
 rcases h.2 with ⟨rfl,h2⟩|⟨g,cap,cur,rfl,_,h3,h4,h5,h6,h7⟩
 .have:rows=[]:=List.length_eq_zero_iff.1 h2;subst this;exact .empty _ _ _
 .have hJ:g<w.heap.size:=(bI.1 h3).1;refine .slice sz rows g 0 _ cap (λi j=>xs.getD (i*sz+j) Go.undef) rfl (hv g rfl) hJ h4 hr (λi r j d hi hj=>?_) λi r j d hi hj=>?_
  .obtain⟨u,hu,_⟩:=hc i r j d hi hj;have hg:xs.getD (i*sz+j) Go.undef=u:=by rw[List.getD_eq_getElem?_getD,hu];rfl
   rw[hg,Nat.zero_add];simp only[World.cell?,h3];rw[<- h7,List.getElem?_take]at hu;split at hu
   .simpa using hu
   .cases hu
  .obtain⟨u,hu,hd⟩:=hc i r j d hi hj;have hg:xs.getD (i*sz+j) Go.undef=u:=by rw[List.getD_eq_getElem?_getD,hu];rfl
   rw[hg];exact hd.mono (bw.less λb hb=>hO b hb)
end NQ
namespace Go.Proofs.YtodofogcincleaaGreatDoor
open NQ Go.RowKit Go.Lib
abbrev FH(af:Bs)(rows:List (List D))(r:List D)(fl f2:Bool):List (Nat×Blk):=[(56,.row 68 5 [r] f2),(100004,.box [.d (.str af),.own 90020]),(90020,.row 68 5 rows fl)]
theorem KR(af:Bs)(rows:List (List D))(i:Nat)(r:List D)(hi:i<=rows.length)(xP:rows.length<=100000)(fl f2:Bool) :
 FnP cxW pv0 184 [.own 90020,.d (.int .i64 i),.own 56] (FH af rows r fl f2)
  (some (.own 90020,[(100004,.box [.d (.str af),.undef]),(90020,.row 68 5 (rows.take i++[r]++rows.drop i))])):=by
 refine⟨⟨_,Tryz.func184,by kernel_rfl,by kernel_rfl⟩,λO w σ vs hO hG kA kt hH kQ ki=>?_⟩;obtain⟨xs,o1,o2,o3,o4,o5⟩:=hH.blk 90020 _ rfl;obtain⟨ys,p1,p2,p3,p4,p5⟩:=hH.blk 56 _ rfl;obtain⟨zb,zc,zt,z1,z2,z3,z4,z5⟩:=hH.blk 100004 _ rfl;have l1:live (FH af rows r fl f2) 90020:=aI.2 ⟨_,rfl⟩;have l2:live (FH af rows r fl f2) 56:=aI.2 ⟨_,rfl⟩;have l3:live (FH af rows r fl f2) 100004:=aI.2 ⟨_,rfl⟩;have v0:vs.getD 0 Go.undef=σ 90020:=by have:=ki 0 _ rfl;generalize vs.getD 0 Go.undef=u at this;cases this;rfl
 have v1:vs.getD 1 Go.undef= .int .i64 i:=by have:=ki 1 _ rfl;exact this.int
 have v2:vs.getD 2 Go.undef=σ 56:=by have:=ki 2 _ rfl;generalize vs.getD 2 Go.undef=u at this;cases this;rfl
 have yg:vs= #[σ 90020,.int .i64 i,σ 56]:=by rw[Sk kQ,v0,v1,v2]
 have kC:∀b,home (σ 90020)=some b->home (σ 56)≠some b:=λb h1 h2=>by
  have:=hH.inj 90020 56 b l1 l2 h1 h2;omega
 have kY:home (σ 100004)=some zb:=by rw[z1];rfl
 have xf:home (σ 90020)≠some zb:=λh=>by
  have:=hH.inj 90020 100004 zb l1 l3 h kY;omega
 have xE:zb<w.heap.size:=(bI.1 z3).1
 let O2:Nat->Prop:=λb=>(O b\/home (σ 90020)=some b)\/b=zb
 have yq:∀b,O2 b->NQ.Own O (live (FH af rows r fl f2)) σ b:=λb hb=>by
  rcases hb with (hb|hb)|rfl
  .exact .inl hb
  .exact .inr ⟨_,l1,hb⟩
  .exact .inr ⟨_,l3,kY⟩
 have hd:=Rb (O' :=O2) p1 p4 p5 yq (λb hb h=>by
  rcases h with (h|h)|rfl
  .exact kt b h ⟨_,l2,hb⟩
  .exact kC b h hb
  .have:=hH.inj 56 100004 _ l2 l3 hb kY;omega)
 have xb := KQ rows i r hi xP O2 w (σ 90020) (σ 56) xs (fun b hb => by
     rcases hb with (hb|hb)|rfl
     .exact hO b hb
     .exact(db.home (hH.blk 90020 _ rfl)).1 b hb |>.2
     .exact xE) hG (λg cells hg h=>by
     rcases h with (h|h)|rfl
     .exact(kA g cells hg).1 h
     .exact(kA g cells hg).2 ⟨_,l1,h⟩
     .exact(kA _ cells hg).2 ⟨_,l3,kY⟩) (λg hg=> .inl (.inr hg)) o1 o4 (λi r j d hi hj=>by
     obtain⟨u,hu,hd⟩:=o5 i r j d hi hj;exact⟨u,hu,hd.mono (bw.less yq)⟩) hd (λB off n c e=>by
     rcases p1.2 with ⟨_,h⟩|⟨g,cap,cur,e',_,h3,_⟩
     .cases h
     .rw[e']at e;cases e;exact⟨⟨cur,_,h3⟩,λh=>kC _ h (by rw[e'];rfl)⟩)
 rw[yg];refine xb.mono ?_;rintro en w' ⟨v',yn,rfl,q1,q2,q3,q4,q5,q6,q7,q8,q9⟩;refine⟨⟨q1,q2,q3,q4,λb hb=>?_⟩,?_⟩
 .by_cases hJ:b<w.heap.size
  .exact q5 b hJ λe=>hb (.inl ⟨90020,l1,e⟩)
  .exact absurd (.inr (by omega)) hb
 let σ' :Nat->Value:=λs=>if s=90020 then v' else σ s
 have e1:σ' 90020=v' :=if_pos rfl;have e3:σ' 100004=σ 100004:=if_neg (by omega);obtain⟨h',xG⟩:∃h',h' =[(100004,Blk.box [.d (.str af),.undef]),(90020,Blk.row 68 5 (rows.take i++[r]++rows.drop i))]:=⟨_,rfl⟩
 rw[<- xG];have yL:find h' 100004=some (Blk.box [.d (.str af),.undef]):=by rw[xG];rfl
 have yv:find h' 90020=some (Blk.row 68 5 (rows.take i++[r]++rows.drop i)):=by rw[xG];rfl
 have yx:∀s b,find h' s=some b->s=100004\/s=90020:=λs b hb=>by
  have:=eO hb;rw[xG]at this;simp only[List.mem_cons,Prod.mk.injEq,List.not_mem_nil,or_false]at this;rcases this with h|h
  .exact .inl h.1
  .exact .inr h.1
 have xH :∀s,live h' s->s=100004\/s=90020:=λs hs=>by
  obtain⟨b,hb⟩:=aI.1 hs;exact yx s b hb
 have hk:bw w w' O2 (NQ.Own O (live h') σ'):=by
  refine⟨q4,λb hb hJ=>q5 b hJ λe=>hb (.inl (.inr e)),λb hb hJ ho=>?_⟩;rcases ho with ho|⟨s,hs,e⟩
  .exact hb (.inl (.inl ho))
  .rcases xH s hs with rfl|rfl
   .rw[e3,kY]at e;cases e;exact hb (.inr rfl)
   .rw[e1]at e;rcases q6 b e with e|e
    .exact hb (.inl (.inr e))
    .omega
 refine⟨v',σ',rfl,⟨λs b hb=>?_,λs s' b h1 h2 f1 f2=>?_⟩,λs hs yV=>?_,?_⟩
 .rcases yx s b hb with rfl|rfl
  .rw[yL]at hb;cases hb;refine⟨zb,zc,zt,by rw[e3,z1],.inl ⟨100004,l3,kY⟩,(q5 zb xE xf).trans z3,z4,λj c hj=>?_⟩;rcases j with _|_|j
   .cases hj;refine⟨.inl rfl,?_⟩;have hz:=(z5 0 _ rfl).2;cases hz with|d _ _ hz=>exact .d _ _ (hz.fG rfl)
   .cases hj;exact⟨.inr rfl,.undef _⟩
   .simp at hj
  .rw[yv]at hb;cases hb;refine⟨yn,by rw[e1];exact q7,λb hb=>?_,⟨by decide,λe=>by cases e⟩,q8,λa q j d ha hj=>?_⟩
   .rw[e1]at hb;rcases q6 b hb with e|e
    .exact .inl ⟨90020,l1,e⟩
    .exact .inr e
   .obtain⟨z,hz,hd⟩:=q9 a q j d ha hj;exact⟨z,hz,hd.mono hk⟩
 .rcases xH s h1 with rfl|rfl <;> rcases xH s' h2 with rfl|rfl
  .rfl
  .rw[e3,kY]at f1;cases f1;rw[e1]at f2;rcases q6 _ f2 with e|e
   .exact absurd e xf
   .omega
  .rw[e3,kY]at f2;cases f2;rw[e1]at f1;rcases q6 _ f1 with e|e
   .exact absurd e xf
   .omega
  .rfl
 .rcases xH s yV with rfl|rfl
  .exact e3
  .simp[cS]at hs
 .have:=aG.own (w:=w') (O:=O) (σ:=σ') 90020 (aI.2 ⟨_,yv⟩);rw[e1]at this;exact this
end Go.Proofs.YtodofogcincleaaGreatDoor
namespace NQ
open Go
def App(X:St->Prop)(s:St):Prop:=X s
theorem sX{α:Type}{G:Prop}{P:α->Prop}{canon:α->St}{X:St->Prop}(h1:(∀a,P a->App X (canon a))->G)(h2:∀a,P a->App X (canon a)):G:=h1 h2
theorem nn{cx:Cx}{fre:List Nat}{st st1:St}{X:St->Prop}(hw:aq cx fre st st1)(h:App X st1):∃st',aq cx fre st st' /\X st' :=⟨st1,hw,h⟩
end NQ
namespace Go.Proofs.YtodofogcincleaaGreatDoor
open NQ Go.RowKit
def Lb(l:List Signed)(x:Signed)(h:Nat):Bool:=match l[h]? with|some y=>decide (wH y x<0)|none=>false
def ud(l:List Signed)(x:Signed)(h:Nat):Bool:=match l[h]? with|some y=>wH y x==0|none=>false
def jR(l:List Signed)(x:Signed):Nat->Nat->Nat->Nat
 |0,i,_=>i
 |f+1,i,j=>if i<j then(if Lb l x ((i+j) / 2)=true then jR l x f ((i+j) / 2+1) j else jR l x f i ((i+j) / 2))else i
def bsW(l:List Signed)(x:Signed):Nat:=jR l x (l.length+1) 0 l.length
theorem ry(l:List Signed)(x:Signed):∀(f f' i j:Nat),j-i<=f->j-i<=f' ->jR l x f i j=jR l x f' i j
 |0,0,_,_,_,_=>rfl
 |0,f' +1,i,j,h,_=>by rw[jR,jR,if_neg (by omega)]
 |f+1,0,i,j,_,h=>by rw[jR,jR,if_neg (by omega)]
 |f+1,f' +1,i,j,h,h' =>by
  rw[jR,jR];split
  .split
   .exact ry l x f f' _ _ (by omega) (by omega)
   .exact ry l x f f' _ _ (by omega) (by omega)
  .rfl
theorem MH(l:List Signed)(x:Signed){i j:Nat}(f:Nat)(hf:j-i<=f)(h:i<j):jR l x f i j=if Lb l x ((i+j) / 2)=true then jR l x f ((i+j) / 2+1) j else jR l x f i ((i+j) / 2):=by
 obtain⟨f,rfl⟩:∃g,f=g+1:=⟨f-1,by omega⟩
 rw[jR,if_pos h];split
 .exact ry l x _ _ _ _ (by omega) (by omega)
 .exact ry l x _ _ _ _ (by omega) (by omega)
theorem Pr(l:List Signed)(x:Signed)(i f:Nat):jR l x f i i=i:=by
 cases f with
 |zero=>rfl
 |succ f=>rw[jR,if_neg (by omega)]
theorem BH(l:List Signed)(x:Signed):∀(f i j:Nat),i<=j->jR l x f i j<=j
 |0,i,j,h=>h
 |f+1,i,j,h=>by
  rw[jR];split
  .split
   .exact BH l x f _ _ (by omega)
   .exact Nat.le_trans (BH l x f _ _ (by omega)) (by omega)
  .exact h
theorem MI(l:List Signed)(x:Signed):bsW l x<=l.length:=BH l x _ _ _ (Nat.zero_le _)
def eN(z:aL)(s:Bs)(kind aP:Int)(data:List Datum):Signed:=⟨⟨s,kind,if (wfR z s kind).2=true then(wfR z s kind).1.aP else aP,data⟩,[]⟩
def bL(z:aL)(s:Bs)(kind aP:Int)(data:List Datum):aL :=
 ⟨z.af,if ud z.aj (eN z s kind aP data) (bsW z.aj (eN z s kind aP data))=true then z.aj.set (bsW z.aj (eN z s kind aP data)) (eN z s kind aP data)
  else z.aj.take (bsW z.aj (eN z s kind aP data))++[eN z s kind aP data]++z.aj.drop (bsW z.aj (eN z s kind aP data))⟩
theorem UQ(l:List Signed)(x:Signed)(hl:l.length<=100000) :
 NQ.Fn cx 182 [.slice 5 (l.map aw),.agg (aw x),.fn 183 [] []] (.tuple [.d (.int .i64 (bsW l x)),.d (.bool (ud l x (bsW l x)))]) []:=by
 refine aU bp mixed Tryz.func182 ?_;conv=>whnf
 refine⟨Nat×Nat,λq=>⟨[(0,.d (.slice 5 (l.map aw))),(2,.d (.fn 183 [] [])),(4,.ptr 4 0),(8,.d (.int .i64 ((l.map aw).length:Int))),(9,.d (.int .i64 q.1)),(10,.d (.int .i64 q.2))],[(4,.box ((aw x).map .d))]⟩,
  λq=>q.1<=q.2/\q.2<=l.length/\jR l x (l.length+1) q.1 q.2=bsW l x,λq=>q.2-q.1,⟨(0,l.length),⟨Nat.zero_le _,Nat.le_refl _,rfl⟩,aK.keep ⟨ae,ae,ae,ae,ae,⟨(by show AV.d (D.int _ _)=_;simp),rfl⟩,trivial⟩ ⟨ae,trivial⟩⟩,λ⟨i,j⟩ ⟨h2,h3,h4⟩=>?_⟩
 dsimp only at h2 h3 h4 ⊢;conv=>whnf
 refine ak (λh=>?_) (λh=>?_) <;> (rw[h];conv=>whnf)
 .have xW:i<j:=by simp at h;omega
  rw[MH l x _ (by omega) xW]at h4
  (refine bV ?_;conv=>whnf)
  rw[NN (by omega)];obtain⟨s,hs⟩:∃s,l[(i+j) / 2]? =some s:=⟨_,au (by omega)⟩
  have hJ:Lb l x ((i+j) / 2)=decide (wH s x<0):=by unfold Lb;rw[hs]
  rw[hJ]at h4;refine⟨aD _,aw s,aN hs,?_⟩;conv=>whnf
  (refine⟨_,_,Av s x,?_⟩;conv=>whnf)
  refine ak (λh=>?_) (λh=>?_) <;> (rw[h];conv=>whnf)
  .rw[if_pos h]at h4;exact⟨((i+j) / 2+1,j),⟨by dsimp only;omega,h3,h4⟩,by dsimp only;omega,aK.keep ⟨ae,ae,ae,ae,⟨ax (by omega),rfl⟩,ae,trivial⟩ ⟨ae,trivial⟩⟩
  .rw[if_neg (by rw[h];decide)]at h4;exact⟨(i,(i+j) / 2),⟨by dsimp only;omega,by dsimp only;omega,h4⟩,by dsimp only;omega,aK.keep ⟨ae,ae,ae,ae,ae,ae,trivial⟩ ⟨ae,trivial⟩⟩
 .obtain rfl:i=j:=by simp at h;omega
  rw[Pr]at h4;clear h;rw[<- h4]
  (refine bV ?_;conv=>whnf)
  refine ak (λh=>?_) (λh=>?_) <;> (rw[h];conv=>whnf)
  .have hJ:i<l.length:=by simp at h;omega
   obtain⟨s,hs⟩:∃s,l[i]? =some s:=⟨_,au hJ⟩
   refine⟨aD _,aw s,aN hs,?_⟩;conv=>whnf
   (refine⟨_,_,Av s x,?_⟩;conv=>whnf)
   refine al rfl ?_;show AV.tuple [AV.d (.int .i64 i),AV.d (.bool _)]=_
   simp[ud,hs]
  .refine al rfl ?_;show AV.tuple [AV.d (.int .i64 i),AV.d (.bool _)]=_
   have:l[i]? =none:=by simp at h;simp;omega
   simp[ud,this]
noncomputable def cxB:Cx:={cx with chg:=gX [(110,9),(184,9)]}
theorem tyB:bD cxB:=bp
theorem Ul:cxB.P.follows .mixedOrders=true:=mixed
abbrev fU(z:aL):List (Nat×Blk):=[(100004,.box [.d (.str z.af),.own 90020]),(90020,sQ z.aj)]
theorem Mh(z:aL)(s:Bs)(kind:Int)(hn:z.aj.length<=100000):FnP cxW pv0 110 [.agg [.d (.str z.af),.own 90020],.d (.str s),.d (.int .i64 kind)] (fU z) (some (.tuple [.agg ((cg (wfR z s kind).1).map .d),.d (.bool (wfR z s kind).2)],fU z)):=by
 refine bt [] (fun|_=>[]) tyW tq Tryz.func110 ?_;conv=>whnf
 (refine⟨_,yZ z.aj (isF s kind) _ _ hn (λx _=>wW x s kind),rfl,?_⟩;conv=>whnf)
 have kN:=lO (isF s kind) z.aj;have ky:wfR z s kind=match z.aj.find? (isF s kind)with|some x=>(x.set,true)|none=>(pq,false):=rfl
 cases hi:z.aj.findIdx? (isF s kind)with
 |none =>
  rw[hi]at kN;rw[<- kN]at ky;conv=>whnf
  exact cq rfl (by rw[ky];rfl) (by rw[ky];rfl)
 |some k =>
  rw[hi]at kN;obtain⟨hJ,_⟩:=List.findIdx?_eq_some_iff_getElem.1 hi;obtain⟨x,hx⟩:∃x,z.aj[k]? =some x:=⟨_,au hJ⟩
  rw[<- kN]at ky;simp only[hx]at ky;conv=>whnf
  refine⟨aD k,by(show k<_;rw[aA];exact hJ),?_⟩;conv=>whnf
  refine⟨aw x,aN hx,?_⟩;conv=>whnf
  exact cq rfl (by rw[ky];rfl) (by rw[ky];rfl)
theorem eV(z:aL)(s:Bs)(kind aP:Int)(data:List Datum)(hn:z.aj.length<=100000)(hd:data.length<=100000) :
 FnP cxB pv0 181 [.ptr 100004 0,.d (.ptr [.str s]),.d (.ptr [.int .i64 kind]),.d (.ptr [.int .i64 aP]),.d (.ptr [.slice 3 (data.map aQ)])] (fU z) (some (.tuple [],fU (bL z s kind aP data))):=by
 refine bt [] (fun|1=>[33333]|2=>[55555]|4=>[55555]|7=>[33333]|_=>[]) tyB Ul Tryz.func181 ?_;conv=>whnf
 (refine bV ?_;conv=>whnf)
 (refine⟨_,_,nI (data.map aQ) (by simpa using hd),?_⟩;conv=>whnf)
 (refine cu ?_;conv=>whnf)
 have hF:=bR (cx' :=cxB) rfl rfl (Mh z s kind hn);apply sX (α:=Unit) (P:=λ_=>True) (canon:=λ_=>⟨[(0,.ptr 100004 0),(1,.d (.ptr [.str s])),(2,.d (.ptr [.int .i64 kind])),(3,.d (.ptr [.int .i64 aP])),(4,.d (.ptr [.slice 3 (data.map aQ)])),(6,.ptr 6 0),(7,.ptr 7 0),(8,.d (.bool (wfR z s kind).2))],
  [(100004,.box [.d (.str z.af),.own 90020]),(90020,sQ z.aj),(6,.box [.d (.str s),.d (.int .i64 kind),.d (.int .i64 aP),.d (.slice 3 (data.map aQ)),.nil 6]),(7,.box ((cg (wfR z s kind).1).map .d))]⟩)
 .intro rest
  repeat' (first
   |(refine⟨[6,7],_,hF,⟨rfl,rfl,rfl⟩,?_⟩;(conv=>whnf);refine aM ?_;(conv=>whnf))
   |exact nn (aq.keep) (rest () trivial)
   |(refine And.intro (by kernel_rfl) ?_;conv=>whnf)
   |(refine And.intro ?_ ?_ <;> (conv=>whnf)))
 rintro _ _;unfold App;conv=>whnf
 apply sX (α:=Unit) (P:=λ_=>True) (canon:=λ_=>⟨[(0,.ptr 100004 0),(6,.ptr 6 0)],
  [(100004,.box [.d (.str z.af),.own 90020]),(90020,sQ z.aj),(6,.box [.d (.str s),.d (.int .i64 kind),.d (.int .i64 (eN z s kind aP data).set.aP),.d (.slice 3 (data.map aQ)),.nil 6])]⟩)
 .intro rest;have hx:(eN z s kind aP data).set.aP=if (wfR z s kind).2=true then(wfR z s kind).1.aP else aP:=rfl
  refine ak (λh1=>?_) (λh1=>?_) <;> (rw[h1];conv=>whnf)
  .rw[if_pos h1]at hx;rw[hx]at rest;exact nn (aq.keep) (rest () trivial)
  .rw[if_neg (by rw[h1];decide)]at hx;rw[hx]at rest;exact nn (aq.keep) (rest () trivial)
 rintro _ _;unfold App;conv=>whnf
 have yr:bL z s kind aP data=⟨z.af,if ud z.aj (eN z s kind aP data) (bsW z.aj (eN z s kind aP data))=true then z.aj.set (bsW z.aj (eN z s kind aP data)) (eN z s kind aP data)
  else z.aj.take (bsW z.aj (eN z s kind aP data))++[eN z s kind aP data]++z.aj.drop (bsW z.aj (eN z s kind aP data))⟩:=rfl
 have hX:aw (eN z s kind aP data)=[.str s,.int .i64 kind,.int .i64 (eN z s kind aP data).set.aP,.slice 3 (data.map aQ),.slice 6 []]:=rfl;have hle:=MI z.aj (eN z s kind aP data);have hb:=UQ z.aj (eN z s kind aP data) hn;rw[hX]at hb;generalize eN z s kind aP data=X at yr hX hle hb ⊢;rw[yr]
 (refine bV ?_;conv=>whnf)
 (refine⟨_,hb,by kernel_rfl,?_⟩;conv=>whnf)
 refine ak (λh1=>?_) (λh1=>?_) <;> (rw[h1];conv=>whnf)
 .have hJ:bsW z.aj X<z.aj.length:=by
   unfold ud at h1;split at h1
   .rename_i y hy;exact(aB.1 hy).1
   .cases h1
  rw[if_pos rfl]
  (refine bV ?_;conv=>whnf)
  refine⟨aD _,by(show bsW z.aj X<_;rw[aA];exact hJ),?_⟩;conv=>whnf
  obtain⟨y,hy⟩:∃y,z.aj[bsW z.aj X]? =some y:=⟨_,au hJ⟩
  refine⟨aw y,aN hy,?_⟩;conv=>whnf
  have xB:(z.aj.set (bsW z.aj X) X).map aw=(z.aj.map aw).set (bsW z.aj X) (aw X):=List.map_set;rw[hX]at xB;exact .inl ⟨[],aq.keep trivial ⟨⟨rfl,rfl⟩,⟨congrArg (λr=>some (Blk.row 68 5 r)) xB.symm,rfl⟩,trivial⟩,rfl⟩
 .rw[if_neg (by decide)];have hI:=λfl f2=>bR (cx' :=cxB) rfl rfl (KR z.af (z.aj.map aw) (bsW z.aj X) (aw X) (by simpa using hle) (by simpa using hn) fl f2)
  rw[hX]at hI
  (refine cu ?_;conv=>whnf)
  repeat' (first
   |(refine⟨[6],_,hI _ _,⟨rfl,rfl,rfl⟩,?_⟩;(conv=>whnf);refine aM ?_;(conv=>whnf))
   |(refine And.intro (by kernel_rfl) ?_;conv=>whnf)
   |(refine And.intro ?_ ?_ <;> (conv=>whnf)))
  have xv:(z.aj.take (bsW z.aj X)++[X]++z.aj.drop (bsW z.aj X)).map aw=(z.aj.map aw).take (bsW z.aj X)++[aw X]++(z.aj.map aw).drop (bsW z.aj X):=by
   rw[List.map_append,List.map_append,List.map_take,List.map_drop];rfl
  rw[hX]at xv
  all_goals exact .inl ⟨[],aq.keep trivial ⟨⟨rfl,rfl⟩,⟨congrArg (λr=>some (Blk.row 68 5 r)) xv.symm,rfl⟩,trivial⟩,rfl⟩
end Go.Proofs.YtodofogcincleaaGreatDoor
namespace NQ
open Go Go.RowKit
theorem SJ{cx:Cx}{fre:List Nat}{st:St}(s:Nat)(cs cs' :List AV)(hf:find st.heap s=some (.box cs))(hc:∀(j:Nat) c,cs'[j]? =some c->c= .undef\/cs[j]? =some c)(hl:cs'.length=cs.length:=by rfl):aq cx fre st ⟨st.aV,(s,.box cs')::st.heap⟩:=by
 refine(aK.LR s (.box cs) (.box cs') hf λw F O L σ h=>?_).toP;obtain⟨b,cur,t,h1,h2,h3,h4,h5⟩:=h;refine⟨b,cur,t,h1,h2,h3,h4.trans hl.symm,λj c hj=>?_⟩;rcases hc j c hj with rfl|hj
 .exact⟨.inr rfl,.undef _⟩
 .exact h5 j c hj
end NQ
namespace Go.Proofs.YtodofogcincleaaGreatDoor
open NQ Go.RowKit
theorem Ou(s:cG)(x:bA):NQ.Fn cx 133 [.agg (cg s),.ptr (bj x)] (.d (.bool (decide (s.type=8)|| !(bJ s.name x.name).1))) []:=by
 refine aU bp mixed Tryz.func133 ?_;conv=>whnf
 repeat' (first|(refine⟨_,_,nE s.name x.name,?_⟩;conv=>whnf)|(refine ak (λh=>?_) (λh=>?_) <;> (rw[h];conv=>whnf))|fail)
 all_goals (refine al rfl ?_;show AV.d (D.bool _)=AV.d (D.bool _);congr 2;(try simp_all))
theorem Ov(s:cG)(x:bA):NQ.Fn cx 135 [.agg (cg s),.ptr (bj x)] (.d (.bool (bJ s.name x.name).1)) []:=by
 refine aU bp mixed Tryz.func135 ?_;conv=>whnf
 (refine⟨_,_,nE s.name x.name,?_⟩;conv=>whnf)
 exact al rfl rfl
theorem IM(s:Signed)(x:bA):NQ.Fn cx 197 [.agg (aw s),.ptr [.fn 133 [] [.ptr (bj x)]]] (.d (.bool (decide (s.set.type=8)|| !(bJ s.set.name x.name).1))) []:=by
 refine aU bp mixed Tryz.func197 ?_;conv=>whnf
 (refine⟨_,_,Ou s.set x,?_⟩;conv=>whnf)
 exact al rfl rfl
theorem IN(s:Signed)(x:bA):NQ.Fn cx 197 [.agg (aw s),.ptr [.fn 135 [] [.ptr (bj x)]]] (.d (.bool (bJ s.set.name x.name).1)) []:=by
 refine aU bp mixed Tryz.func197 ?_;conv=>whnf
 (refine⟨_,_,Ov s.set x,?_⟩;conv=>whnf)
 exact al rfl rfl
theorem SN(l:List Signed)(p:Signed->Bool)(x:D)(hn:l.length<=100000)(hf:∀s∈l,NQ.Fn cx 197 [.agg (aw s),x] (.d (.bool (p s))) []) :
 NQ.Fn cx 177 [.slice 5 (l.map aw),.fn 197 [] [x]] (.d (.int .i64 (match l.findIdx? p with|some k=>(k:Int)|none=> -1))) []:=by
 refine aU bp mixed Tryz.func177 ?_;conv=>whnf
 refine⟨Nat,λk=>⟨[(0,.d (.slice 5 (l.map aw))),(1,.d (.fn 197 [] [x])),(7,.d (.int .i64 ((l.map aw).length:Int))),(8,.d (.int .i64 k))],[]⟩,λk=>k<=l.length/\ ∀j y,j<k->l[j]? =some y->p y=false,λk=>l.length-k,
  ⟨0,⟨by omega,λj y h=>by omega⟩,aK.keep ⟨ae,ae,ae,ae,trivial⟩ trivial⟩,λk hk=>?_⟩
 obtain⟨hk,kJ⟩:=hk;conv=>whnf
 refine ak (λh1=>?_) (λh1=>?_) <;> (rw[h1];conv=>whnf)
 .have hJ:k<l.length:=by simp at h1;omega
  obtain⟨s,hs⟩:∃s,l[k]? =some s:=⟨_,au hJ⟩
  refine⟨aD k,aw s,aN hs,?_⟩;conv=>whnf
  (refine⟨_,_,hf s (aC hs),?_⟩;conv=>whnf)
  refine ak (λh2=>?_) (λh2=>?_) <;> (rw[h2];conv=>whnf)
  .refine al rfl ?_;have:l.findIdx? p=some k:=by
    rw[List.findIdx?_eq_some_iff_getElem];obtain⟨g1,g2⟩:=aB.1 hs;refine⟨g1,by rw[g2];exact h2,λj hj=>?_⟩;have:=kJ j (l[j]) hj (au (by omega));rw[this];decide
   rw[this];rfl
  .refine⟨k+1,⟨hJ,λj y hj hy=>?_⟩,by(show l.length-(k+1)<l.length-k;omega),aK.keep ⟨ae,ae,ae,⟨ax (by omega),rfl⟩,trivial⟩ trivial⟩;rcases Nat.lt_succ_iff_lt_or_eq.1 hj with hj|rfl
   .exact kJ j y hj hy
   .rw[hs]at hy;cases hy;exact h2
 .obtain rfl:k=l.length:=by simp at h1;omega
  refine al rfl ?_;have:l.findIdx? p=none:=by
   rw[List.findIdx?_eq_none_iff];intro x hx;obtain⟨i,hi⟩:=cN hx;exact kJ i x (aB.1 hi).1 hi
  rw[this];rfl
noncomputable def cxX:Cx:={cx with chg:=gX [(196,9)]}
theorem tyX:bD cxX:=bp
theorem Uq:cxX.P.follows .mixedOrders=true:=mixed
noncomputable def PG:Cx:={cx with bld:=[777001]}
theorem Vr:bD PG:=bp
theorem Td:PG.P.follows .mixedOrders=true:=mixed
theorem Hs(z:aL)(p:Signed->Bool)(F:FuncId)(y:bA)(hn:z.aj.length<=100000)(hf:∀s,NQ.Fn cx 197 [.agg (aw s),.ptr [.fn F [] [.ptr (bj y)]]] (.d (.bool (p s))) []) :
 FnP cxW pv0 196 [.own 90020,.fn 197 [] [.d (.ptr [.fn F [] [.ptr (bj y)]])]] (fU z)
  (some (.own 90020,[(100004,.box [.d (.str z.af),.undef]),(90020,sQ (z.aj.filter λs=> !p s))])):=by
 refine bR (cx:=PG) rfl rfl ?_;refine bt [] (fun|11=>[33333]|12=>[33333]|_=>[]) Vr Td Tryz.func196 ?_;conv=>whnf
 (refine⟨_,SN z.aj p (.ptr [.fn F [] [.ptr (bj y)]]) hn (λs _=>hf s),by kernel_rfl,?_⟩;conv=>whnf)
 cases hi:z.aj.findIdx? p with
 |none =>
  have kJ:(z.aj.filter λs=> !p s)=z.aj:=by
   rw[List.filter_eq_self];intro s hs;have:=List.findIdx?_eq_none_iff.1 hi s hs;rw[this];rfl
  rw[kJ];conv=>whnf
  refine gz (SJ 100004 [.d (.str z.af),.own 90020] [.d (.str z.af),.undef] rfl (λj c h=>?_)) rfl rfl rfl;rcases j with _|_|j
  .exact .inr h
  .cases h;exact .inl rfl
  .simp at h
 |some k =>
  obtain⟨hk,kh,xO⟩:=List.findIdx?_eq_some_iff_getElem.1 hi;have h1:((k:Int)== -1)=false:=by simp
  rw[show((match (some k:Option Nat)with|some k=>(k:Int)|none=> -1)== -1)=false from h1];conv=>whnf
  have kd:(z.aj.take (k+1)).filter (λs=> !p s)=z.aj.take k:=by
   rw[List.take_add_one,au hk,List.filter_append];have e1:(z.aj.take k).filter (λs=> !p s)=z.aj.take k:=by
    rw[List.filter_eq_self];intro s hs;obtain⟨j,hj⟩:=cN hs;rw[List.getElem?_take]at hj;split at hj
    .rename_i yT;obtain⟨g1,g2⟩:=aB.1 hj;have:=xO j yT;rw[g2]at this;simpa using this
    .cases hj
   rw[e1];simp[kh]
  refine⟨Nat×Nat×List Signed,λq=>⟨[(0,.own 90020),(1,.fn 197 [] [.d (.ptr [.fn F [] [.ptr (bj y)]])]),(5,.d (.int .i64 q.1)),(6,.d (.int .i64 q.2.1))],[(100004,.box [.d (.str z.af),.own 90020]),(90020,sQ q.2.2)]⟩,
   λq=>q.1<q.2.1/\q.2.1<=z.aj.length/\q.2.2.length=z.aj.length/\q.2.2.take q.1=(z.aj.take q.2.1).filter (λs=> !p s)/\q.2.2.drop q.2.1=z.aj.drop q.2.1,λq=>z.aj.length-q.2.1,
   ⟨(k,k+1,z.aj),⟨by dsimp only;omega,hk,rfl,kd.symm,rfl⟩,aq.keep ⟨ae,ae,ae,⟨ax (by omega),rfl⟩,trivial⟩⟩,?_⟩
  rintro⟨i,j,R⟩ ⟨xW,hj,hR,hT,hD⟩;dsimp only at xW hj hR hT hD;conv=>whnf
  refine ak (λh2=>?_) (λh2=>?_) <;> (rw[h2];conv=>whnf)
  .have hJ:j<z.aj.length:=by simp at h2;omega
   obtain⟨s,hs⟩:∃s,z.aj[j]? =some s:=⟨_,au hJ⟩
   have yJ:R[j]? =some s:=by
    have:=congrArg (λl=>l[0]?) hD;simpa [List.getElem?_drop,hs] using this
   have yF:(z.aj.take (j+1)).filter (λs=> !p s)=(z.aj.take j).filter (λs=> !p s)++(if p s=true then[]else[s]):=by
    rw[bP hs,List.filter_append];cases hp:p s <;> simp[hp]
   have yu:R.drop (j+1)=z.aj.drop (j+1):=by
    rw[<- List.drop_drop, <- List.drop_drop,hD]
   refine⟨aD j,by(show j<_;rw[aA,hR];exact hJ),?_⟩;conv=>whnf
   refine⟨aw s,aN yJ,?_⟩;conv=>whnf
   (refine⟨_,_,hf s,?_⟩;conv=>whnf)
   refine ak (λh3=>?_) (λh3=>?_) <;> (rw[h3];conv=>whnf)
   .have hp:p s=false:=by simpa using h3
    refine⟨aD i,by(show i<_;rw[aA,hR];omega),?_⟩;conv=>whnf
    obtain⟨y,hy⟩:∃y,R[i]? =some y:=⟨_,au (by omega)⟩
    refine⟨aw y,aN hy,?_⟩;conv=>whnf
    refine⟨(i+1,j+1,R.set i s),⟨by dsimp only;omega,hJ,by(show(R.set i s).length=_;rw[List.length_set,hR]),?_,?_⟩,by(show z.aj.length-(j+1)<z.aj.length-j;omega),aq.keep ⟨ae,ae,⟨ax (k:=i) (by omega),rfl⟩,⟨ax (k:=j) (by omega),rfl⟩,trivial⟩ ⟨ae,⟨congrArg (λr=>some (Blk.row 68 5 r)) (List.map_set (f:=aw) (l:=R) (i:=i) (a:=s)).symm,rfl⟩,trivial⟩⟩
    .show(R.set i s).take (i+1)=_
     rw[yF,if_neg (by rw[hp];decide), <- hT,List.take_add_one,List.getElem?_set_self (by omega),List.take_set_of_le (Nat.le_refl _)];rfl
    .show(R.set i s).drop (j+1)=_
     rw[List.drop_set_of_lt (by omega),yu]
   .have hp:p s=true:=by simpa using h3
    refine⟨(i,j+1,R),⟨by dsimp only;omega,hJ,hR,?_,yu⟩,by(show z.aj.length-(j+1)<z.aj.length-j;omega),aq.keep ⟨ae,ae,ae,⟨ax (k:=j) (by omega),rfl⟩,trivial⟩⟩;show R.take i=_
    rw[yF,if_pos hp,List.append_nil];exact hT
  .obtain rfl:j=z.aj.length:=by simp at h2;omega
   rw[List.take_length]at hT;refine⟨aD i,by(show i<_;rw[aA,hR];omega),?_⟩;conv=>whnf
   refine⟨by(show i<_;rw[aA,hR];omega),?_⟩;conv=>whnf
   refine⟨aD i,by(show i<_;rw[List.length_append,List.length_take,List.length_replicate,aA,hR];omega),?_⟩;conv=>whnf
   have xh:∀y:List D,((R.map aw).take i++List.replicate ((R.map aw).length-i) y).take i=(z.aj.filter λs=> !p s).map aw:=λy=>by
    rw[List.take_append_of_le_length (by rw[List.length_take,aA,hR];omega),List.take_take,Nat.min_self, <- List.map_take,hT]
   refine gz (aq.keep (sl:=[(4,.own 90020)]) (h:=[(100004,.box [.d (.str z.af),.undef]),(90020,sQ (z.aj.filter λs=> !p s))]) (by repeat' (first|exact trivial|refine⟨⟨rfl,rfl⟩,?_⟩)) ⟨⟨rfl,rfl⟩,⟨congrArg (λr=>some (Blk.row 68 5 r)) (xh _),rfl⟩,trivial⟩) rfl rfl rfl
theorem wX(z:aL)(p:Signed->Bool)(F:FuncId)(y:bA)(hn:z.aj.length<=100000)(hf:∀s,NQ.Fn cx 197 [.agg (aw s),.ptr [.fn F [] [.ptr (bj y)]]] (.d (.bool (p s))) []) :
 FnP cxX pv0 195 [.ptr 100004 0,.d (.ptr [.fn F [] [.ptr (bj y)]])] (fU z) (some (.tuple [],fU ⟨z.af,z.aj.filter λs=> !p s⟩)):=by
 refine bt [] (fun|0=>[33333]|_=>[]) tyX Uq Tryz.func195 ?_;conv=>whnf
 have hD:=bR (cx' :=cxX) rfl rfl (Hs z p F y hn hf);refine⟨[],_,hD,⟨rfl,rfl,rfl⟩,?_⟩;conv=>whnf
 refine aM ?_;conv=>whnf
 exact .inl ⟨[],aq.keep trivial,rfl⟩
theorem Kr(l:List Signed)(hn:l.length<=100000):FnP cxW pv0 193 [.d (.slice 5 (l.map aw))] [] (some (.own 90020,[(90020,sQ l)])):=by
 refine bt [] (fun|_=>[]) tyW tq Tryz.func193 ?_;conv=>whnf
 refine⟨λh=>?_,?_⟩
 .have hl:l=[]:=by
   have:=List.isEmpty_iff.1 h;simpa using this
  subst hl;conv=>whnf
  exact gz (aq.jV 2 90020 5 68 5 rfl rfl (by decide)) rfl rfl rfl
 .conv=>whnf
  refine⟨by(show 0+(l.map aw).length<=_;rw[aA];omega),by(show(0+(l.map aw).length)*80<=_;rw[aA];omega),?_⟩;conv=>whnf
  exact gz (aq.name 5 90020 rfl rfl) rfl rfl rfl
noncomputable def Fa:Cx:={cx with chg:=gX [(193,9)]}
theorem Vp:bD Fa:=bp
theorem Tb:Fa.P.follows .mixedOrders=true:=mixed
theorem km(z:aL)(hn:z.aj.length<=100000)(hs:∀s∈z.aj,s.set.data.length<=100000/\s.sigs.length<=100000) :
 FnP Fa pv0 131 [.agg ((aX z).map .d)] [] (some (.agg [.d (.str z.af),.own 90020],[(90020,sQ z.aj)])):=by
 refine bt [] (fun|1=>[33333]|6=>[55555]|_=>[]) Vp Tb Tryz.func131 ?_;conv=>whnf
 have hC:=bR (cx' :=Fa) rfl rfl (Kr z.aj hn);refine⟨[1,2],_,hC,⟨rfl,rfl,rfl⟩,?_⟩;conv=>whnf
 refine aM ?_;conv=>whnf
 refine⟨Nat,λk=>⟨[(1,.ptr 1 0),(2,.ptr 2 0),(10,.d (.int .i64 ((z.aj.map aw).length:Int))),(11,.d (.int .i64 k))],[(1,.box [.d (.str z.af),.own 90020]),(2,.box [.d (.str []),.nil 5]),(90020,sQ z.aj)]⟩,
  λk=>k<=z.aj.length,λk=>z.aj.length-k,⟨0,Nat.zero_le _,aq.keep⟩,λk hk=>?_⟩
 conv=>whnf
 refine ak (λh1=>?_) (λh1=>?_) <;> (rw[h1];conv=>whnf)
 .have hJ:k<z.aj.length:=by simp at h1;omega
  obtain⟨s,kX⟩:∃s,z.aj[k]? =some s:=⟨_,au hJ⟩
  have kD:=hs s (aC kX);have kW:(z.aj.map aw).set k (aw s)=z.aj.map aw:=by
   rw[<- List.map_set]
   congr 1
   obtain⟨g1,g2⟩:=aB.1 kX;rw[<- g2];exact List.set_getElem_self g1
  (refine bV ?_;conv=>whnf)
  repeat' (first
   |(refine⟨aD k,by(show k<_;rw[aA];exact hJ),?_⟩;conv=>whnf)
   |(refine⟨aw s,aN kX,?_⟩;conv=>whnf)
   |(refine⟨_,_,nI (s.set.data.map aQ) (by simpa using kD.1),?_⟩;conv=>whnf))
  refine⟨_,aq.keep (sl:=[(1,.ptr 1 0),(2,.ptr 2 0),(3,.d (.int .i64 k)),(10,.d (.int .i64 ((z.aj.map aw).length:Int))),(11,.d (.int .i64 k))]) (h:=[(1,.box [.d (.str z.af),.own 90020]),(2,.box [.d (.str []),.nil 5]),(90020,sQ z.aj)]) (by repeat' (first|exact trivial|refine⟨⟨rfl,rfl⟩,?_⟩)) ⟨⟨rfl,rfl⟩,⟨rfl,rfl⟩,⟨congrArg (λr=>some (Blk.row 68 5 r)) kW,rfl⟩,trivial⟩,?_⟩;conv=>whnf
  (refine bV ?_;conv=>whnf)
  repeat' (first
   |(refine⟨aD k,by(show k<_;rw[aA];exact hJ),?_⟩;conv=>whnf)
   |(refine⟨aw s,aN kX,?_⟩;conv=>whnf)
   |(refine⟨_,_,vu (s.sigs.map gK) (by simpa using kD.2),?_⟩;conv=>whnf))
  exact⟨k+1,hJ,by(show z.aj.length-(k+1)<z.aj.length-k;omega),aq.keep ⟨ae,ae,ae,⟨ax (k:=k) (by omega),rfl⟩,trivial⟩ ⟨ae,ae,⟨congrArg (λr=>some (Blk.row 68 5 r)) kW,rfl⟩,trivial⟩⟩
 .exact cq rfl rfl rfl
def addrAt(w:aZ)(n:Int):Int:=match w.ay[n.toNat]? with|some h=>h.addr|none=>0
def nM(w:aZ)(aP:Int)(cut:Bs)(z:aL)(n:Int):aL:=if (bJ (nameAt w n) cut).1=true then bL z (nameAt w n) 1 aP [⟨[],addrAt w n,0⟩]else z
def dj(w:aZ)(aP:Int)(cut:Bs)(ay:List Int)(z:aL):aL:=ay.foldl (nM w aP cut) z
theorem gW(z:aL)(s:Bs)(kind aP:Int)(data:List Datum):(bL z s kind aP data).aj.length<=z.aj.length+1:=by
 unfold bL;dsimp only;split
 .rw[List.length_set];omega
 .rw[List.length_append,List.length_append,List.length_take,List.length_drop];have:=MI z.aj (eN z s kind aP data);simp;omega
theorem pg(w:aZ)(aP:Int)(cut:Bs):∀(l:List Int) (z:aL),(dj w aP cut l z).aj.length<=z.aj.length+l.length
 |[],z=>Nat.le_refl _
 |n::t,z=>by
  have:=pg w aP cut t (nM w aP cut z n);have h2:(nM w aP cut z n).aj.length<=z.aj.length+1:=by
   unfold nM;split
   .exact gW _ _ _ _ _
   .omega
  show(dj w aP cut t (nM w aP cut z n)).aj.length<=_
  simp;omega
abbrev lr(s:Bs)(kind aP:Int)(data:List Datum):AV:= .fn 181 [] [.d (.ptr [.str s]),.d (.ptr [.int .i64 kind]),.d (.ptr [.int .i64 aP]),.d (.ptr [.slice 3 (data.map aQ)])]
theorem eI(s:Bs)(kind aP:Int)(data:List Datum):FnP cxW pv0 116 [.d (.str s),.d (.int .i64 kind),.d (.int .i64 aP),.d (.slice 3 (data.map aQ))] [] (some (lr s kind aP data,[])):=by
 refine bt [] (fun|_=>[]) tyW tq Tryz.func116 ?_;conv=>whnf
 exact Gr [4,5,6,7] rfl rfl rfl
def bH(o:bz):List (Nat×Blk):=[(100034,.box (QM true o)),(90032,.smap (hZ o.got)),(90040,.row 45 3 (o.aF.map aR)),(90041,.row 40 1 (o.bq.map dD))]
abbrev Qf(o:bz)(z:aL):List (Nat×Blk):=fU z++(100003,.box [.ptr 100034 0])::bH o
noncomputable def cxU:Cx:={cx with chg:=gX [(116,9),(181,9)],bld:=[35]}
theorem tyU:bD cxU:=bp
theorem Uo:cxU.P.follows .mixedOrders=true:=mixed
theorem rH(o:bz)(cut:Bs)(l:List Int)(z:aL)(hh:∀n∈l,bK o.w n=true)(hl:l.length<=1000)(hn:z.aj.length+l.length<=100000) :
 FnP cxU pv0 185 [.ptr 100004 0,.d (.ptr [.slice 1 (l.map dm)]),.ptr 100003 0,.d (.ptr [.str cut])] (Qf o z) (some (.tuple [],Qf o (dj o.w o.aP cut l z))):=by
 refine bt [] (fun|5=>[33333]|_=>[]) tyU Uo Tryz.func185 ?_;conv=>whnf
 refine⟨Nat×aL,λq=>⟨[(0,.ptr 100004 0),(1,.d (.ptr [.slice 1 (l.map dm)])),(2,.ptr 100003 0),(3,.d (.ptr [.str cut])),(8,.d (.slice 1 (l.map dm))),(9,.d (.int .i64 ((l.map dm).length:Int))),(10,.d (.int .i64 q.1))],Qf o q.2⟩,
  λq=>q.1<=l.length/\dj o.w o.aP cut (l.drop q.1) q.2=dj o.w o.aP cut l z/\q.2.aj.length<=z.aj.length+q.1,λq=>l.length-q.1,⟨(0,z),⟨Nat.zero_le _,rfl,Nat.le_refl _⟩,aq.keep⟩,?_⟩
 rintro⟨k,y⟩ ⟨hk,hy,hs⟩;dsimp only at hk hy hs;conv=>whnf
 refine ak (λh1=>?_) (λh1=>?_) <;> (rw[h1];conv=>whnf)
 .have hJ:k<l.length:=by simp at h1;omega
  obtain⟨n,kG⟩:∃n,l[k]? =some n:=⟨_,au hJ⟩
  have hw:=hh n (aC kG);unfold bK at hw;simp only[aT,decide_eq_true_eq]at hw;obtain⟨h,xV⟩:∃h,o.w.ay[n.toNat]? =some h:=⟨_,au (by omega)⟩
  have e1:nameAt o.w n=h.name:=by unfold nameAt;rw[xV]
  have e2:addrAt o.w n=h.addr:=by unfold addrAt;rw[xV]
  rw[drop_cons kG]at hy;have hy:dj o.w o.aP cut (l.drop (k+1)) (nM o.w o.aP cut y n)=dj o.w o.aP cut l z:=hy;unfold nM at hy;rw[e1,e2]at hy;refine⟨aD k,dm n,aN kG,?_⟩;conv=>whnf
  refine⟨hw.1,fJ h,aN xV,?_⟩;conv=>whnf
  (refine⟨_,_,nE h.name cut,?_⟩;conv=>whnf)
  refine ak (λh3=>?_) (λh3=>?_) <;> (rw[h3];conv=>whnf)
  .rw[if_pos h3]at hy;have hB:=bR (cx' :=cxU) rfl rfl (eI h.name 1 o.aP [⟨[],h.addr,0⟩]);have kf:=bR (cx' :=cxU) rfl rfl (eV y h.name 1 o.aP [⟨[],h.addr,0⟩] (by omega) (by simp));have hlen:=gW y h.name 1 o.aP [⟨[],h.addr,0⟩];generalize bL y h.name 1 o.aP [⟨[],h.addr,0⟩]=y' at hy kf hlen
   (refine cu ?_;conv=>whnf)
   repeat' (first
    |(refine⟨[7,100004,90020,100003,100034,90032,90040,90041],_,hB,⟨rfl,rfl,rfl⟩,?_⟩;(conv=>whnf);refine aM ?_;(conv=>whnf))
    |(refine⟨[7,100003,100034,90032,90040,90041],_,kf,⟨rfl,rfl,rfl⟩,?_⟩;(conv=>whnf);refine aM ?_;(conv=>whnf))
    |(refine And.intro (by kernel_rfl) ?_;conv=>whnf)
    |(refine And.intro ?_ ?_ <;> (conv=>whnf)))
   all_goals exact⟨(k+1,y'),⟨hJ,hy,by dsimp only;omega⟩,by(show l.length-(k+1)<l.length-k;omega),aq.keep ⟨ae,ae,ae,ae,ae,ae,⟨ax (k:=k) (by omega),rfl⟩,trivial⟩⟩
  .rw[if_neg (by rw[h3];decide)]at hy;exact⟨(k+1,y),⟨hJ,hy,by dsimp only;omega⟩,by(show l.length-(k+1)<l.length-k;omega),aq.keep ⟨ae,ae,ae,ae,ae,ae,⟨ax (k:=k) (by omega),rfl⟩,trivial⟩⟩
 .obtain rfl:k=l.length:=by simp at h1;omega
  rw[List.drop_length]at hy;have hy:y=dj o.w o.aP cut l z:=hy;subst hy;exact .inl ⟨[],aq.keep trivial,rfl⟩
def pvW(e:Int):Value:= .iface 128 (.agg #[.int .i64 e])
theorem KC(e:Int)(w:World):Calls Tryz.prog 111 #[.int .i64 e] w λen w' =>en= .panicked [{v:=pvW e,recovered:=false}]/\w' =w:=by
 go_enter Tryz.func111,Tryz.ntmps111
 go_wp2
 exact⟨rfl,rfl,rfl⟩
theorem ku(e:Int)(he:e≠0):FnP cxW pvW 111 [.d (.int .i64 e)] [] none:=by
 refine⟨⟨_,Tryz.func111,by kernel_rfl,by kernel_rfl⟩,λO w σ vs hO hG kA kt hH kQ ki=>?_⟩;have v0:vs.getD 0 Go.undef= .int .i64 e:=(ki 0 _ rfl).int;have yg:vs= #[.int .i64 e]:=by rw[uV kQ,v0]
 rw[yg];refine(KC e w).mono ?_;rintro en w' ⟨rfl,rfl⟩;exact⟨⟨rfl,rfl,rfl,Nat.le_refl _,λ_ _=>rfl⟩,e,he,rfl⟩
noncomputable def Kv:Cx:={cx with chg:=gX [(111,9)]}
theorem UI:bD Kv:=bp
theorem Jy:Kv.P.follows .mixedOrders=true:=mixed
theorem uy(z:aL)(s:Bs)(kind:Int)(hn:z.aj.length<=100000):FnP Kv pvW 63 [.undef,.agg ((aX z).map .d),.d (.str s),.d (.int .i64 kind)] [] (if (wfR z s kind).2=true then some (.agg ((cg (wfR z s kind).1).map .d),[])else none):=by
 cases h:(wfR z s kind).2 with
 |true =>
  rw[if_pos rfl];refine bt [] (fun|_=>[]) UI Jy Tryz.func63 ?_;conv=>whnf
  have hf:=nk z s kind hn;rw[h]at hf
  (refine⟨_,_,hf,?_⟩;conv=>whnf)
  exact cq rfl rfl rfl trivial
 |false =>
  rw[if_neg (by decide)];refine bt [] (fun|3=>[33333]|_=>[]) UI Jy Tryz.func63 ?_;conv=>whnf
  have hf:=nk z s kind hn;rw[h]at hf
  (refine⟨_,_,hf,?_⟩;conv=>whnf)
  have hF:=bR (cx' :=Kv) rfl rfl (ku 35 (by decide));exact⟨[5,8,9],_,hF,⟨rfl,rfl,rfl⟩,rfl⟩
noncomputable def BN:Cx:={cx with chg:=gX [(111,9),(110,9)]}
theorem UJ:bD BN:=bp
theorem Jz:BN.P.follows .mixedOrders=true:=mixed
abbrev Sm(z:aL):List (Nat×Blk):=(90005,.box [.d (.str z.af),.own 90020])::fU z
theorem BA(z:aL)(s:Bs)(kind:Int)(hn:z.aj.length<=100000):FnP cxW pv0 110 [.agg [.d (.str z.af),.own 90020],.d (.str s),.d (.int .i64 kind)] (Sm z) (some (.tuple [.agg ((cg (wfR z s kind).1).map .d),.d (.bool (wfR z s kind).2)],Sm z)):=by
 refine bt [] (fun|_=>[]) tyW tq Tryz.func110 ?_;conv=>whnf
 (refine⟨_,yZ z.aj (isF s kind) _ _ hn (λx _=>wW x s kind),rfl,?_⟩;conv=>whnf)
 have kN:=lO (isF s kind) z.aj;have ky:wfR z s kind=match z.aj.find? (isF s kind)with|some x=>(x.set,true)|none=>(pq,false):=rfl
 cases hi:z.aj.findIdx? (isF s kind)with
 |none =>
  rw[hi]at kN;rw[<- kN]at ky;conv=>whnf
  exact cq rfl (by rw[ky];rfl) (by rw[ky];rfl)
 |some k =>
  rw[hi]at kN;obtain⟨hJ,_⟩:=List.findIdx?_eq_some_iff_getElem.1 hi;obtain⟨x,hx⟩:∃x,z.aj[k]? =some x:=⟨_,au hJ⟩
  rw[<- kN]at ky;simp only[hx]at ky;conv=>whnf
  refine⟨aD k,by(show k<_;rw[aA];exact hJ),?_⟩;conv=>whnf
  refine⟨aw x,aN hx,?_⟩;conv=>whnf
  exact cq rfl (by rw[ky];rfl) (by rw[ky];rfl)
theorem bU{cx:Cx}{pv pv' :Int->Value}{f:FuncId}{args:List AV}{h:List (Nat×Blk)}{x:AV}{h' :List (Nat×Blk)}(hf:FnP cx pv f args h (some (x,h'))):FnP cx pv' f args h (some (x,h')):=hf
theorem rP(z:aL)(s:Bs)(kind:Int)(hn:z.aj.length<=100000):FnP BN pvW 63 [.undef,.agg [.d (.str z.af),.own 90020],.d (.str s),.d (.int .i64 kind)] (fU z) (if (wfR z s kind).2=true then some (.agg ((cg (wfR z s kind).1).map .d),fU z)else none):=by
 cases h:(wfR z s kind).2 with
 |true =>
  rw[if_pos rfl];refine bt [] (fun|1=>[33333,55555]|_=>[]) UJ Jz Tryz.func63 ?_;conv=>whnf
  have hf:=bU (pv' :=pvW) (bR (cx' :=BN) rfl rfl (BA z s kind hn));rw[h]at hf;refine⟨_,aq.name 5 90005 rfl rfl,?_⟩;conv=>whnf
  refine⟨[8],_,hf,⟨rfl,rfl,rfl⟩,?_⟩;conv=>whnf
  refine aM ?_;conv=>whnf
  exact cq rfl rfl rfl
 |false =>
  rw[if_neg (by decide)];refine bt [] (fun|1=>[33333,55555]|3=>[33333]|_=>[]) UJ Jz Tryz.func63 ?_;conv=>whnf
  have hf:=bU (pv' :=pvW) (bR (cx' :=BN) rfl rfl (BA z s kind hn));rw[h]at hf;refine⟨_,aq.name 5 90005 rfl rfl,?_⟩;conv=>whnf
  refine⟨[8],_,hf,⟨rfl,rfl,rfl⟩,?_⟩;conv=>whnf
  refine aM ?_;conv=>whnf
  have hF:=bR (cx' :=BN) rfl rfl (ku 35 (by decide));exact⟨[90005,8,9,100004,90020],_,hF,⟨rfl,rfl,rfl⟩,rfl⟩
def kq(s:cG):Datum:=match s.data with|d::_=>d|[]=>⟨[],0,0⟩
def eT(z:aL):aL:=bL z z.af 4 0 [⟨[],(pJ (kq (wfR z z.af 4).1).n).1,(kq (wfR z z.af 4).1).m⟩]
def lY(since aO:Int)(v:aL):Option aL :=
 if (wfR v v.af 7).2=true then
  if (((dw (wfR v v.af 7).1).2 != 0)|| !bf v)=true then none
  else if ((eW v).2 != 0)=true then none
  else if (((iL (eW v).1 (dw (wfR v v.af 7).1).1 since aO).2 != 0)|| !bf (iL (eW v).1 (dw (wfR v v.af 7).1).1 since aO).1)=true then none
  else some (iL (eW v).1 (dw (wfR v v.af 7).1).1 since aO).1
 else none
def de(since aO:Int)(z:aL):Option aL :=
 if (wfR z z.af 4).2=true then
  if ((pJ (kq (wfR z z.af 4).1).n).2 != 0)=true then none
  else lY since aO (eT z)
 else none
def ng(h:List (Nat×Blk)):Option aL->Option (AV×List (Nat×Blk))
 |some z=>some (.agg ((aX z).map .d),h)
 |none=>none
noncomputable def dy:Cx:={cx with chg:=gX [(131,9),(116,9),(181,9),(195,9),(185,9),(63,11),(111,9)],bld:=[50]}
theorem GN:bD dy:=bp
theorem tn:dy.P.follows .mixedOrders=true:=mixed
def gL(n:Nat):Code->Option Code
 | .region id ops dr=>(match Nat.beq id n with|true=>some (.region id ops dr)|false=>none)
 | .seq a b=>(match gL n a with|some c=>some (.seq c b)|none=>gL n b)
 |_=>none
theorem fV{cx:Cx}{fre:List Nat}{st canon:St}{X:St->Prop}(h:∃st',aq cx fre canon st' /\X st')(hw:aq cx fre st canon):∃st',aq cx fre st st' /\X st' :=by
 obtain⟨st',h1,h2⟩:=h;exact⟨st',hw.trans h1,h2⟩
theorem vd(s:cG):(dw s).1.length<=100000:=by
 unfold dw;split
 .rename_i h;split
  .have:=mw h;unfold cK;simp;omega
  .simp
 .simp
def slF:Nat->List Nat:=(fun|1=>[33333]|5=>[33333]|7=>[33333,55555]|10=>[33333]|11=>[33333,55555]|12=>[33333,55555]|13=>[90020]|14=>[33333]|15=>[55555]|18=>[55555]|17=>[33333]|20=>[33333]|_=>[])
noncomputable abbrev Be:Code:=(Tryz.f120).body.getD .skip
noncomputable abbrev LM:List ResultVar:=(Tryz.f120).results.toList
theorem LF(o:bz)(v:aL)(yl:v.aj.length<=90001) :
 vcp dy [100004] pvW 101 slF (λ_=>ng (bH o) (lY o.since o.aO v)=none) ((gL 12 Be).getD .skip) (nK dy [100004] LM (ng (bH o) (lY o.since o.aO v)))
  ⟨[(0,.ptr 100034 0),(4,.ptr 100004 0),(6,.ptr 6 0)],fU v++(6,.box [.d (.str []),.nil 5])::bH o⟩:=by
 conv=>whnf
 refine⟨_,aq.refl _,?_⟩;conv=>whnf
 obtain⟨r,hr⟩:∃r,r=lY o.since o.aO v:=⟨_,rfl⟩
 rw[<- hr];unfold lY at hr;have hN:=rP v v.af 7 (by omega);obtain⟨s7,b7,h7⟩:∃a b,wfR v v.af 7=(a,b):=⟨_,_,rfl⟩
 rw[h7]at hN hr;dsimp only at hN hr;cases b7 with
 |false =>
  rw[if_neg (by decide)]at hr hN;subst hr;have hN:=bR (cx' :=dy) rfl rfl hN;exact⟨[6,100034,90032,90040,90041],_,hN,⟨rfl,rfl,rfl⟩,rfl⟩
 |true =>
 rw[if_pos rfl]at hN hr;have hN:=bR (cx' :=dy) rfl rfl hN;refine⟨[6,100034,90032,90040,90041],_,hN,⟨rfl,rfl,rfl⟩,?_⟩;conv=>whnf
 refine aM ?_;clear hN;conv=>whnf
 have hK:=wN s7;obtain⟨ks,ke,xw⟩:∃a b,dw s7=(a,b):=⟨_,_,rfl⟩
 rw[xw]at hK hr;dsimp only at hK hr
 (refine⟨_,_,hK,?_⟩;conv=>whnf)
 have hF:=bR (cx' :=dy) rfl rfl (ku 35 (by decide));have xY:ks.length<=100000:=by
  have e:ks=(dw s7).1:=by rw[xw]
  rw[e];exact vd s7
 cases kP:(ke != 0)with
 |true =>
  rw[kP,if_pos (by simp)]at hr;subst hr;conv=>whnf
  exact⟨[6,100004,100034,90032,90040,90041],_,hF,⟨rfl,rfl,rfl⟩,rfl⟩
 |false =>
 conv=>whnf
 (refine⟨_,_,jB v,?_⟩;conv=>whnf)
 cases hvv:bf v with
 |false =>
  rw[kP,hvv,if_pos (by simp)]at hr;subst hr;conv=>whnf
  exact⟨[6,100004,100034,90032,90040,90041],_,hF,⟨rfl,rfl,rfl⟩,rfl⟩
 |true =>
 rw[kP,hvv,if_neg (by simp)]at hr;conv=>whnf
 refine⟨_,aq.keep (sl:=[(0,.ptr 100034 0),(4,.ptr 100004 0),(6,.ptr 6 0),(12,.d (.slice 2 (ks.map cd)))]) (h:=(100004,.box ((aX v).map .d))::(6,.box [.d (.str []),.nil 5])::bH o),?_⟩;conv=>whnf
 have hC:=EK v;obtain⟨c,ce,hc⟩:∃a b,eW v=(a,b):=⟨_,_,rfl⟩
 rw[hc]at hC hr;dsimp only at hC hr
 (refine⟨_,_,hC,?_⟩;conv=>whnf)
 cases hce:(ce != 0)with
 |true =>
  rw[hce,if_pos (by simp)]at hr;subst hr;conv=>whnf
  exact⟨[6,100004,100034,90032,90040,90041],_,hF,⟨rfl,rfl,rfl⟩,rfl⟩
 |false =>
 rw[hce,if_neg (by simp)]at hr;conv=>whnf
 refine⟨_,aq.keep (sl:=[(0,.ptr 100034 0),(4,.ptr 100004 0),(6,.ptr 6 0),(12,.d (.slice 2 (ks.map cd)))]) (h:=(100004,.box ((aX c).map .d))::(6,.box [.d (.str []),.nil 5])::bH o),?_⟩;conv=>whnf
 have hL:=Mx c ks o.since o.aO xY;obtain⟨l,le,hl⟩:∃a b,iL c ks o.since o.aO=(a,b):=⟨_,_,rfl⟩
 rw[hl]at hL hr;dsimp only at hL hr
 (refine bV ?_;conv=>whnf)
 (refine⟨_,_,hL,?_⟩;conv=>whnf)
 cases hle:(le != 0)with
 |true =>
  rw[hle,if_pos (by simp)]at hr;subst hr;conv=>whnf
  exact⟨[6,100004,100034,90032,90040,90041],_,hF,⟨rfl,rfl,rfl⟩,rfl⟩
 |false =>
 conv=>whnf
 (refine⟨_,_,jB l,?_⟩;conv=>whnf)
 cases hvl:bf l with
 |false =>
  rw[hle,hvl,if_pos (by simp)]at hr;subst hr;conv=>whnf
  exact⟨[6,100004,100034,90032,90040,90041],_,hF,⟨rfl,rfl,rfl⟩,rfl⟩
 |true =>
 rw[hle,hvl,if_neg (by simp)]at hr;subst hr;conv=>whnf
 exact cq rfl rfl rfl
theorem Oi(o:bz)(y:aL)(yl:y.aj.length<=90000)(kd:(wfR y y.af 4).2=true->(wfR y y.af 4).1.data≠[]) :
 vcp dy [100004] pvW 101 slF (λ_=>ng (bH o) (de o.since o.aO y)=none) ((gL 7 Be).getD .skip) (nK dy [100004] LM (ng (bH o) (de o.since o.aO y)))
  ⟨[(0,.ptr 100034 0),(4,.ptr 100004 0),(6,.ptr 6 0)],fU y++(6,.box [.d (.str []),.nil 5])::bH o⟩:=by
 conv=>whnf
 refine⟨_,aq.refl _,?_⟩;conv=>whnf
 obtain⟨r,hr⟩:∃r,r=de o.since o.aO y:=⟨_,rfl⟩
 rw[<- hr];unfold de at hr;have hN:=rP y y.af 4 (by omega);cases h1:(wfR y y.af 4).2 with
 |false =>
  rw[h1]at hN;rw[h1,if_neg (by decide)]at hr;subst hr;have hN:=bR (cx' :=dy) rfl rfl hN;exact⟨[6,100034,90032,90040,90041],_,hN,⟨rfl,rfl,rfl⟩,rfl⟩
 |true =>
 rw[h1,if_pos rfl]at hN;rw[h1,if_pos rfl]at hr;have hN:=bR (cx' :=dy) rfl rfl hN;refine⟨[6,100034,90032,90040,90041],_,hN,⟨rfl,rfl,rfl⟩,?_⟩;conv=>whnf
 refine aM ?_;conv=>whnf
 have kC:=kd h1;obtain⟨d0,dt,kr⟩:∃d t,(wfR y y.af 4).1.data=d::t:=by
  cases hc:(wfR y y.af 4).1.data with
  |nil=>exact absurd hc kC
  |cons d t=>exact⟨d,t,rfl⟩
 have xc:kq (wfR y y.af 4).1=d0:=by unfold kq;rw[kr]
 rw[xc]at hr;have kc:((wfR y y.af 4).1.data.map aQ)[(0:Int).toNat]? =some (aQ d0):=by rw[kr];rfl
 refine⟨Int.le_refl 0,aQ d0,kc,?_⟩;conv=>whnf
 obtain⟨nx,ne,xC⟩:∃a b,pJ d0.n=(a,b):=⟨_,_,rfl⟩
 have hA:=Er d0.n;rw[xC]at hA hr;dsimp only at hA hr
 (refine⟨_,_,hA,?_⟩;conv=>whnf)
 refine ak (λh2=>?_) (λh2=>?_) <;> (rw[h2];conv=>whnf)
 .rw[if_pos h2]at hr;subst hr;have hF:=bR (cx' :=dy) rfl rfl (ku 35 (by decide));exact⟨[6,9,100004,90020,100034,90032,90040,90041],_,hF,⟨rfl,rfl,rfl⟩,rfl⟩
 rw[if_neg (by rw[h2];decide)]at hr;have kl:eT y=bL y y.af 4 0 [⟨[],nx,d0.m⟩]:=by unfold eT;rw[xc,xC]
 have hB:=bU (pv' :=pvW) (bR (cx' :=dy) rfl rfl (eI y.af 4 0 [⟨[],nx,d0.m⟩]));have kf:=bU (pv' :=pvW) (bR (cx' :=dy) rfl rfl (eV y y.af 4 0 [⟨[],nx,d0.m⟩] (by omega) (by simp)));have kx:=gW y y.af 4 0 [⟨[],nx,d0.m⟩];have kp:(bL y y.af 4 0 [⟨[],nx,d0.m⟩]).af=y.af:=rfl;rw[<- kl]at kf kx kp;generalize eT y=v at kf kx kp hr kl;refine⟨_,aq.keep (sl:=[(0,.ptr 100034 0),(4,.ptr 100004 0),(6,.ptr 6 0),(9,.ptr 9 0),(10,.d (.int .i64 nx))]) (h:=fU y++(6,.box [.d (.str []),.nil 5])::(9,.box ((cg (wfR y y.af 4).1).map .d))::bH o),?_⟩;conv=>whnf
 (refine cu ?_;conv=>whnf)
 refine⟨Int.le_refl 0,aQ d0,kc,?_⟩;conv=>whnf
 refine⟨by kernel_rfl,?_⟩;conv=>whnf
 refine⟨by kernel_rfl,?_⟩;conv=>whnf
 refine⟨[6,9,100004,90020,100034,90032,90040,90041],_,hB,⟨rfl,rfl,rfl⟩,?_⟩;conv=>whnf
 refine aM ?_;conv=>whnf
 refine⟨[6,9,100034,90032,90040,90041],_,kf,⟨rfl,rfl,rfl⟩,?_⟩;conv=>whnf
 refine aM ?_;conv=>whnf
 have ht:=LF o v (by omega);conv at ht=>whnf
 rw[<- hr]at ht;exact fV ht (aq.keep)
abbrev TQ(s:Bs)(kind aP:Int)(data:List Datum):D:= .fn 181 [] [.ptr [.str s],.ptr [.int .i64 kind],.ptr [.int .i64 aP],.ptr [.slice 3 (data.map aQ)]]
theorem rW(o:bz)(z:aL)(s:Bs)(kind aP:Int)(data:List Datum)(hz:bf z=true)(hd:data.length<=100000)(kd:(wfR (bL z s kind aP data) z.af 4).2=true->(wfR (bL z s kind aP data) z.af 4).1.data≠[]) :
 FnP dy pvW 120 [.ptr 100034 0,.agg ((aX z).map .d),.d (.slice 1 [[TQ s kind aP data]])] (bH o) (ng (bH o) (de o.since o.aO (bL z s kind aP data))):=by
 refine bt [100004] slF GN tn Tryz.func120 ?_;conv=>whnf
 have ho:=bO hz;have hC:=bU (pv' :=pvW) (bR (cx' :=dy) rfl rfl (km z (by have:=ho.few;omega) (λs hs=>by have:=rn hz s hs;omega)));refine⟨[4,6,100034,90032,90040,90041],_,hC,⟨rfl,rfl,rfl⟩,?_⟩;conv=>whnf
 refine aM ?_;conv=>whnf
 refine⟨Nat,λk=>⟨[(0,.ptr 100034 0),(4,.ptr 100004 0),(6,.ptr 6 0),(15,.d (.slice 1 [[TQ s kind aP data]])),(16,.d (.int .i64 1)),(17,.d (.int .i64 k))],fU (match k with|0=>z|_=>bL z s kind aP data)++(6,.box [.d (.str []),.nil 5])::bH o⟩,
  λk=>k<=1,λk=>1-k,⟨0,Nat.zero_le _,(aq.name 4 100004 rfl rfl).trans (aq.keep)⟩,λk hk=>?_⟩
 rcases k with _|_|k
 case succ.succ=>omega
 .conv=>whnf
  refine⟨by decide,_,rfl,?_⟩;conv=>whnf
  have kf:=bU (pv' :=pvW) (bR (cx' :=dy) rfl rfl (eV z s kind aP data (by have:=ho.few;omega) hd));refine⟨[6,100034,90032,90040,90041],_,kf,⟨rfl,rfl,rfl⟩,?_⟩;conv=>whnf
  refine aM ?_;conv=>whnf
  exact⟨1,Nat.le_refl _,by decide,aq.keep⟩
 have hT:=Oi o (bL z s kind aP data) (by have:=gW z s kind aP data;have:=ho.few;omega) kd;conv at hT=>whnf
 conv=>whnf
 exact fV hT (aq.keep)
abbrev gBz(o:bz):List (Nat×Blk):=(100003,.box [.ptr 100034 0])::bH o
abbrev mZ(l:List Int)(cut:Bs):AV:= .fn 185 [] [.d (.ptr [.slice 1 (l.map dm)]),.ptr 100003 0,.d (.ptr [.str cut])]
theorem Is(o:bz)(v:aL)(yl:v.aj.length<=90001) :
 vcp dy [100004] pvW 101 slF (λ_=>ng (gBz o) (lY o.since o.aO v)=none) ((gL 12 Be).getD .skip) (nK dy [100004] LM (ng (gBz o) (lY o.since o.aO v)))
  ⟨[(0,.ptr 100034 0),(4,.ptr 100004 0),(6,.ptr 6 0)],fU v++(6,.box [.d (.str []),.nil 5])::gBz o⟩:=by
 conv=>whnf
 refine⟨_,aq.refl _,?_⟩;conv=>whnf
 obtain⟨r,hr⟩:∃r,r=lY o.since o.aO v:=⟨_,rfl⟩
 rw[<- hr];unfold lY at hr;have hN:=rP v v.af 7 (by omega);obtain⟨s7,b7,h7⟩:∃a b,wfR v v.af 7=(a,b):=⟨_,_,rfl⟩
 rw[h7]at hN hr;dsimp only at hN hr;cases b7 with
 |false =>
  rw[if_neg (by decide)]at hr hN;subst hr;have hN:=bR (cx' :=dy) rfl rfl hN;exact⟨[6,100003,100034,90032,90040,90041],_,hN,⟨rfl,rfl,rfl⟩,rfl⟩
 |true =>
 rw[if_pos rfl]at hN hr;have hN:=bR (cx' :=dy) rfl rfl hN;refine⟨[6,100003,100034,90032,90040,90041],_,hN,⟨rfl,rfl,rfl⟩,?_⟩;conv=>whnf
 refine aM ?_;clear hN;conv=>whnf
 have hK:=wN s7;obtain⟨ks,ke,xw⟩:∃a b,dw s7=(a,b):=⟨_,_,rfl⟩
 rw[xw]at hK hr;dsimp only at hK hr
 (refine⟨_,_,hK,?_⟩;conv=>whnf)
 have hF:=bR (cx' :=dy) rfl rfl (ku 35 (by decide));have xY:ks.length<=100000:=by
  have e:ks=(dw s7).1:=by rw[xw]
  rw[e];exact vd s7
 cases kP:(ke != 0)with
 |true =>
  rw[kP,if_pos (by simp)]at hr;subst hr;conv=>whnf
  exact⟨[6,100004,100003,100034,90032,90040,90041],_,hF,⟨rfl,rfl,rfl⟩,rfl⟩
 |false =>
 conv=>whnf
 (refine⟨_,_,jB v,?_⟩;conv=>whnf)
 cases hvv:bf v with
 |false =>
  rw[kP,hvv,if_pos (by simp)]at hr;subst hr;conv=>whnf
  exact⟨[6,100004,100003,100034,90032,90040,90041],_,hF,⟨rfl,rfl,rfl⟩,rfl⟩
 |true =>
 rw[kP,hvv,if_neg (by simp)]at hr;conv=>whnf
 refine⟨_,aq.keep (sl:=[(0,.ptr 100034 0),(4,.ptr 100004 0),(6,.ptr 6 0),(12,.d (.slice 2 (ks.map cd)))]) (h:=(100004,.box ((aX v).map .d))::(6,.box [.d (.str []),.nil 5])::gBz o),?_⟩;conv=>whnf
 have hC:=EK v;obtain⟨c,ce,hc⟩:∃a b,eW v=(a,b):=⟨_,_,rfl⟩
 rw[hc]at hC hr;dsimp only at hC hr
 (refine⟨_,_,hC,?_⟩;conv=>whnf)
 cases hce:(ce != 0)with
 |true =>
  rw[hce,if_pos (by simp)]at hr;subst hr;conv=>whnf
  exact⟨[6,100004,100003,100034,90032,90040,90041],_,hF,⟨rfl,rfl,rfl⟩,rfl⟩
 |false =>
 rw[hce,if_neg (by simp)]at hr;conv=>whnf
 refine⟨_,aq.keep (sl:=[(0,.ptr 100034 0),(4,.ptr 100004 0),(6,.ptr 6 0),(12,.d (.slice 2 (ks.map cd)))]) (h:=(100004,.box ((aX c).map .d))::(6,.box [.d (.str []),.nil 5])::gBz o),?_⟩;conv=>whnf
 have hL:=Mx c ks o.since o.aO xY;obtain⟨l,le,hl⟩:∃a b,iL c ks o.since o.aO=(a,b):=⟨_,_,rfl⟩
 rw[hl]at hL hr;dsimp only at hL hr
 (refine bV ?_;conv=>whnf)
 (refine⟨_,_,hL,?_⟩;conv=>whnf)
 cases hle:(le != 0)with
 |true =>
  rw[hle,if_pos (by simp)]at hr;subst hr;conv=>whnf
  exact⟨[6,100004,100003,100034,90032,90040,90041],_,hF,⟨rfl,rfl,rfl⟩,rfl⟩
 |false =>
 conv=>whnf
 (refine⟨_,_,jB l,?_⟩;conv=>whnf)
 cases hvl:bf l with
 |false =>
  rw[hle,hvl,if_pos (by simp)]at hr;subst hr;conv=>whnf
  exact⟨[6,100004,100003,100034,90032,90040,90041],_,hF,⟨rfl,rfl,rfl⟩,rfl⟩
 |true =>
 rw[hle,hvl,if_neg (by simp)]at hr;subst hr;conv=>whnf
 exact cq rfl rfl rfl
theorem qd(o:bz)(y:aL)(yl:y.aj.length<=90000)(kd:(wfR y y.af 4).2=true->(wfR y y.af 4).1.data≠[]) :
 vcp dy [100004] pvW 101 slF (λ_=>ng (gBz o) (de o.since o.aO y)=none) ((gL 7 Be).getD .skip) (nK dy [100004] LM (ng (gBz o) (de o.since o.aO y)))
  ⟨[(0,.ptr 100034 0),(4,.ptr 100004 0),(6,.ptr 6 0)],fU y++(6,.box [.d (.str []),.nil 5])::gBz o⟩:=by
 conv=>whnf
 refine⟨_,aq.refl _,?_⟩;conv=>whnf
 obtain⟨r,hr⟩:∃r,r=de o.since o.aO y:=⟨_,rfl⟩
 rw[<- hr];unfold de at hr;have hN:=rP y y.af 4 (by omega);cases h1:(wfR y y.af 4).2 with
 |false =>
  rw[h1]at hN;rw[h1,if_neg (by decide)]at hr;subst hr;have hN:=bR (cx' :=dy) rfl rfl hN;exact⟨[6,100003,100034,90032,90040,90041],_,hN,⟨rfl,rfl,rfl⟩,rfl⟩
 |true =>
 rw[h1,if_pos rfl]at hN;rw[h1,if_pos rfl]at hr;have hN:=bR (cx' :=dy) rfl rfl hN;refine⟨[6,100003,100034,90032,90040,90041],_,hN,⟨rfl,rfl,rfl⟩,?_⟩;conv=>whnf
 refine aM ?_;conv=>whnf
 have kC:=kd h1;obtain⟨d0,dt,kr⟩:∃d t,(wfR y y.af 4).1.data=d::t:=by
  cases hc:(wfR y y.af 4).1.data with
  |nil=>exact absurd hc kC
  |cons d t=>exact⟨d,t,rfl⟩
 have xc:kq (wfR y y.af 4).1=d0:=by unfold kq;rw[kr]
 rw[xc]at hr;have kc:((wfR y y.af 4).1.data.map aQ)[(0:Int).toNat]? =some (aQ d0):=by rw[kr];rfl
 refine⟨Int.le_refl 0,aQ d0,kc,?_⟩;conv=>whnf
 obtain⟨nx,ne,xC⟩:∃a b,pJ d0.n=(a,b):=⟨_,_,rfl⟩
 have hA:=Er d0.n;rw[xC]at hA hr;dsimp only at hA hr
 (refine⟨_,_,hA,?_⟩;conv=>whnf)
 refine ak (λh2=>?_) (λh2=>?_) <;> (rw[h2];conv=>whnf)
 .rw[if_pos h2]at hr;subst hr;have hF:=bR (cx' :=dy) rfl rfl (ku 35 (by decide));exact⟨[6,9,100004,90020,100003,100034,90032,90040,90041],_,hF,⟨rfl,rfl,rfl⟩,rfl⟩
 rw[if_neg (by rw[h2];decide)]at hr;have kl:eT y=bL y y.af 4 0 [⟨[],nx,d0.m⟩]:=by unfold eT;rw[xc,xC]
 have hB:=bU (pv' :=pvW) (bR (cx' :=dy) rfl rfl (eI y.af 4 0 [⟨[],nx,d0.m⟩]));have kf:=bU (pv' :=pvW) (bR (cx' :=dy) rfl rfl (eV y y.af 4 0 [⟨[],nx,d0.m⟩] (by omega) (by simp)));have kx:=gW y y.af 4 0 [⟨[],nx,d0.m⟩];have kp:(bL y y.af 4 0 [⟨[],nx,d0.m⟩]).af=y.af:=rfl;rw[<- kl]at kf kx kp;generalize eT y=v at kf kx kp hr kl;refine⟨_,aq.keep (sl:=[(0,.ptr 100034 0),(4,.ptr 100004 0),(6,.ptr 6 0),(9,.ptr 9 0),(10,.d (.int .i64 nx))]) (h:=fU y++(6,.box [.d (.str []),.nil 5])::(9,.box ((cg (wfR y y.af 4).1).map .d))::gBz o),?_⟩;conv=>whnf
 (refine cu ?_;conv=>whnf)
 refine⟨Int.le_refl 0,aQ d0,kc,?_⟩;conv=>whnf
 refine⟨by kernel_rfl,?_⟩;conv=>whnf
 refine⟨by kernel_rfl,?_⟩;conv=>whnf
 refine⟨[6,9,100004,90020,100003,100034,90032,90040,90041],_,hB,⟨rfl,rfl,rfl⟩,?_⟩;conv=>whnf
 refine aM ?_;conv=>whnf
 refine⟨[6,9,100003,100034,90032,90040,90041],_,kf,⟨rfl,rfl,rfl⟩,?_⟩;conv=>whnf
 refine aM ?_;conv=>whnf
 have ht:=Is o v (by omega);conv at ht=>whnf
 rw[<- hr]at ht;exact fV ht (aq.keep)
def ZSm(z:aL):Prop:=z.aj.length<=20000/\ ∀s∈z.aj,s.set.data.length<=100000/\s.sigs.length<=100000
theorem iw(w:aZ)(aP:Int)(cut:Bs):∀(l:List Int) (z:aL),(dj w aP cut l z).af=z.af
 |[],z=>rfl
 |n::t,z=>by
  show(dj w aP cut t (nM w aP cut z n)).af=z.af
  rw[iw w aP cut t];unfold nM;split <;> rfl
def sC(p:Signed->Bool)(z:aL):aL:=⟨z.af,z.aj.filter λs=> !p s⟩
theorem QR(p:Signed->Bool)(z:aL):(sC p z).aj.length<=z.aj.length:=List.length_filter_le ..
abbrev woA(F:FuncId)(x:bA):AV:= .fn 195 [] [.d (.ptr [.fn F [] [.ptr (bj x)]])]
theorem LA(o:bz)(z:aL)(s:Bs)(c:Int)(f:Int)(d:List Datum)(cut:Bs)(l:List Int)(hz:ZSm z)(hh:∀n∈l,bK o.w n=true)(hl:l.length<=1000)(hd:d.length<=100000)(kd:(wfR (dj o.w o.aP cut l (bL z s c f d)) z.af 4).2=true->(wfR (dj o.w o.aP cut l (bL z s c f d)) z.af 4).1.data≠[]) :
 FnP dy pvW 120 [.ptr 100034 0,.agg ((aX z).map .d),.own 76] ((76,.eH 177 1 [[lr s c f d],[mZ l cut]])::gBz o) (ng (gBz o) (de o.since o.aO (dj o.w o.aP cut l (bL z s c f d)))):=by
 refine bt [100004] slF GN tn Tryz.func120 ?_;conv=>whnf
 have hC:=bU (pv' :=pvW) (bR (cx' :=dy) rfl rfl (km z (by have:=hz.1;omega) hz.2));refine⟨[4,6,76,100003,100034,90032,90040,90041],_,hC,⟨rfl,rfl,rfl⟩,?_⟩;conv=>whnf
 refine aM ?_;conv=>whnf
 have kf:=bU (pv' :=pvW) (bR (cx' :=dy) rfl rfl (eV z s c f d (by have:=hz.1;omega) hd));have kj:=gW z s c f d;have kH:(bL z s c f d).af=z.af:=rfl;generalize kM:bL z s c f d=z1 at kf kj kH kd ⊢;have kz:=bU (pv' :=pvW) (bR (cx' :=dy) rfl rfl (rH o cut l z1 hh hl (by have:=hz.1;omega)));have kx:=pg o.w o.aP cut l z1;have kp:(dj o.w o.aP cut l z1).af=z1.af:=iw ..;generalize kT:dj o.w o.aP cut l z1=z2 at kz kx kp kd ⊢
 refine⟨Nat,λk=>⟨[(0,.ptr 100034 0),(4,.ptr 100004 0),(6,.ptr 6 0),(15,.own 76),(16,.d (.int .i64 2)),(17,.d (.int .i64 k))],fU (match k with|0=>z|1=>z1|_=>z2)++(6,.box [.d (.str []),.nil 5])::(76,.eH 177 1 [[lr s c f d],[mZ l cut]])::gBz o⟩,
  λk=>k<=2,λk=>2-k,⟨0,Nat.zero_le _,(aq.name 4 100004 rfl rfl).trans (aq.keep)⟩,λk hk=>?_⟩
 rcases k with _|_|_|k
 case succ.succ.succ=>omega
 .conv=>whnf
  refine⟨by decide,bB rfl,?_⟩;conv=>whnf
  refine⟨_,rfl,?_⟩;conv=>whnf
  refine⟨[6,76,100003,100034,90032,90040,90041],_,kf,⟨by kernel_rfl,by kernel_rfl,by kernel_rfl⟩,?_⟩;conv=>whnf
  refine aM ?_;conv=>whnf
  exact⟨1,by decide,by(show 2-1<2-0;omega),aq.keep⟩
 .conv=>whnf
  refine⟨by decide,bB rfl,?_⟩;conv=>whnf
  refine⟨_,rfl,?_⟩;conv=>whnf
  refine⟨[6,76],_,kz,⟨by kernel_rfl,by kernel_rfl,by kernel_rfl⟩,?_⟩;conv=>whnf
  refine aM ?_;conv=>whnf
  exact⟨2,by decide,by(show 2-2<2-1;omega),aq.keep⟩
 have hT:=qd o z2 (by have:=hz.1;omega) (by rw[kp,kH];exact kd);conv at hT=>whnf
 conv=>whnf
 exact fV hT (aq.keep)
end Go.Proofs.YtodofogcincleaaGreatDoor
namespace NQ
open Go Go.RowKit
theorem FnP.RT{cx:Cx}{pv:Int->Value}{f:FuncId}{args:List AV}{x y:AV}{h' :List (Nat×Blk)}(s:Nat)(h:FnP cx pv f args [] (some (x,h')))(e1:((⟨[(0,x)],h'⟩:St).freeze s).get 0=y)(e2:((⟨[(0,x)],h'⟩:St).freeze s).heap=[]) :
 FnP cx pv f args [] (some (y,[])):=by
 refine⟨h.1,λO w σ vs hO hG kA kt hH kQ ki=>(h.2 O w σ vs hO hG kA kt hH kQ ki).mono λen w' =>?_⟩;rintro⟨hf,u,σ',rfl,hh,_,hr⟩;have yC:∀b,¬dO [] σ b:=λb ⟨s,hl,_⟩=>by simp[live,find]at hl
 let E:Env:=⟨λb=>dO [] σ b\/w.heap.size<=b,O,w,1,λ_=>none,[]⟩
 have hs:Sim cx E ⟨[(0,x)],h'⟩ {tmps:= #[u],defers:=[]} w' :=by
  refine⟨σ',⟨hf,λb hb=> .inr hb,λb hb hF=>?_,rfl,rfl,λt=>?_,hh,hG,λg cells hg=>⟨λhF=>?_,(kA g cells hg).1⟩,λq0 B hB=>by cases hB⟩⟩
  .rcases hF with hF|hF
   .exact yC b hF
   .have:=hO b hb;omega
  .cases t with
   |zero=>exact hr
   |succ t=>exact .undef _
  .rcases hF with hF|hF
   .exact yC g hF
   .have:=(hG g cells hg).1;omega
 obtain⟨τ,h2⟩:=hs.freeze s;refine⟨hf,u,τ,rfl,?_,λs hs=>by simp[cS]at hs,?_⟩
 .have:=h2.holds;rw[e2]at this;exact this
 .have:=h2.aV 0;rw[e1,e2]at this;exact this
theorem FnP.xy{cx:Cx}{pv:Int->Value}{f:FuncId}{args kR:List AV}{h:List (Nat×Blk)}{out:Option (AV×List (Nat×Blk))}(hf:FnP cx pv f kR h out)(e:kR=args.map dn2):FnP cx pv f args h out:=by
 subst e;refine⟨hf.1,λO w σ vs hO hG kA kt hH kQ ki=>hf.2 O w σ vs hO hG kA kt hH (by rw[aA];exact kQ) λj c hj=>?_⟩;rw[bc]at hj;cases hc:args[j]? with
 |none=>rw[hc]at hj;cases hj
 |some c' =>rw[hc]at hj;cases hj;exact xk (ki j c' hc)
end NQ
namespace Go.Proofs.YtodofogcincleaaGreatDoor
open NQ Go.RowKit
theorem MO(z:aL)(hn:z.aj.length<=100000)(hs:∀s∈z.aj,s.set.data.length<=100000/\s.sigs.length<=100000):NQ.Fn Fa 131 [.agg (aX z)] (.agg ((aX z).map .d)) [] :=
 jn (FnP.RT 90020 (km z hn hs) rfl rfl)
def DY(o:bz)(host:Int)(z:aL):bz:={o with aF:=o.aF++[⟨host,z⟩]}
noncomputable def BO:Cx:={cx with bld:=[15]}
theorem Rx:bD BO:=bp
theorem Cc:BO.P.follows .mixedOrders=true:=mixed
theorem qp(o:bz)(host:Int)(z:aL)(hz:ZSm z)(hp:o.aF.length<=100000):FnP BO pvW 114 [.ptr 100034 0,.d (.int .i64 host),.agg ((aX z).map .d)] (bH o) (some (.tuple [],bH (DY o host z))):=by
 refine bt [] (fun|_=>[]) Rx Cc Tryz.func114 ?_;conv=>whnf
 (refine bV ?_;conv=>whnf)
 (refine⟨_,_,MO z (by have:=hz.1;omega) hz.2,?_⟩;conv=>whnf)
 refine⟨by simp;omega,by simp;omega,?_⟩;conv=>whnf
 have e:(o.aF.map aR)++[[.int .i64 host,.str z.af,.slice 5 (z.aj.map aw)]]=(DY o host z).aF.map aR:=by
  unfold DY;rw[List.map_append];rfl
 exact .inl ⟨[],aq.keep trivial ⟨⟨rfl,rfl⟩,⟨rfl,rfl⟩,⟨congrArg (λr=>some (Blk.row 45 3 r)) e,rfl⟩,⟨rfl,rfl⟩,trivial⟩,rfl⟩
noncomputable def yP:Cx:={cx with chg:=gX [(114,9)],bld:=[15]}
theorem UK:bD yP:=bp
theorem JA:yP.P.follows .mixedOrders=true:=mixed
theorem GD(o:bz)(host:Int)(af:Bs)(hp:o.aF.length<=100000):FnP yP pvW 122 [.ptr 100034 0,.d (.int .i64 host),.d (.str af)] (bH o) (some (.tuple [],bH (DY o host ⟨af,[]⟩))):=by
 refine bt [] (fun|_=>[33333]) UK JA Tryz.func122 ?_;conv=>whnf
 have hP:=FnP.xy (args:=[.ptr 100034 0,.d (.int .i64 host),.agg [.d (.str af),.nil 5]]) (bR (cx' :=yP) rfl rfl (qp o host ⟨af,[]⟩ ⟨by simp,by simp⟩ hp)) rfl;refine⟨[],_,hP,⟨rfl,rfl,rfl⟩,?_⟩;conv=>whnf
 refine aM ?_;conv=>whnf
 exact .inl ⟨[],aq.keep trivial,rfl⟩
theorem yk(k:cR):FnP BO pv0 123 [.agg ((cd k).map .d)] [] (some (.own 90050,[(90050,.row 70 3 [aQ ⟨[],k.n,k.alg⟩])])):=by
 refine bt [] (fun|_=>[]) Rx Cc Tryz.func123 ?_;conv=>whnf
 exact gz (aq.name 8 90050 rfl rfl) rfl rfl rfl
theorem oQ(k:cR):FnP BO pv0 123 [.agg ((cd k).map .d)] [] (some (.d (.slice 3 [aQ ⟨[],k.n,k.alg⟩]),[])):=FnP.RT 90050 (yk k) rfl rfl
theorem FC(o:bz)(cut:Bs)(l:List Int):FnP BO pv0 118 [.ptr 100034 0,.d (.str cut),.d (.slice 1 (l.map dm))] (bH o) (some (.fn 185 [] [.d (.ptr [.slice 1 (l.map dm)]),.ptr 90003 0,.d (.ptr [.str cut])],(90003,.box [.ptr 100034 0])::bH o)):=by
 refine bt [] (fun|1=>[4,5]|_=>[]) Rx Cc Tryz.func118 ?_;conv=>whnf
 exact gz (aq.name 3 90003 rfl rfl) rfl rfl rfl
def bT(z:aL)(l:List ao):List ao:=(l.filter λp=>p.ah.af==z.af).map λp=>⟨p.host,z⟩
def dN(z:aL)(l:List Int):List ao:=l.map λn=>⟨n,z⟩
def bW(g:List (Bs×List Int))(a:Bs):List Int:=(bG a g).getD []
theorem uN(a:Bs):∀g:List (Bs×List Int),bG a (hZ g)=(bG a g).map λl=> .slice 1 (l.map dm)
 |[]=>rfl
 |(k,l)::t=>by
  have:=uN a t;show(if a=k then _ else bG a (hZ t))=Option.map _ (if a=k then _ else bG a t)
  rw[this];split <;> rfl
def aS(o:bz)(z:aL):bz:={o with aF:=o.aF++bT z o.w.ai++dN z (bW o.got z.af)}
theorem kI(o:bz)(z:aL)(hz:ZSm z)(hn:o.w.ai.length<=1000)(hp:o.aF.length<=10000)(hg:(bW o.got z.af).length<=1000):FnP yP pvW 119 [.ptr 100034 0,.agg ((aX z).map .d)] (bH o) (some (.tuple [],bH (aS o z))):=by
 refine bt [] (fun|5=>[33333]|10=>[33333]|_=>[]) UK JA Tryz.func119 ?_;conv=>whnf
 refine⟨Nat×List ao,λq=>⟨[(0,.ptr 100034 0),(3,.ptr 3 0),(12,.d (.slice 3 (o.w.ai.map aR))),(13,.d (.int .i64 ((o.w.ai.map aR).length:Int))),(14,.d (.int .i64 q.1))],(3,.box ((aX z).map .d))::bH {o with aF:=q.2}⟩,
  λq=>q.1<=o.w.ai.length/\q.2++bT z (o.w.ai.drop q.1)=o.aF++bT z o.w.ai/\q.2.length<=o.aF.length+q.1,λq=>o.w.ai.length-q.1,⟨(0,o.aF),⟨Nat.zero_le _,rfl,Nat.le_refl _⟩,aq.keep⟩,?_⟩
 rintro⟨k,ps⟩ ⟨hk,hs,hl⟩;dsimp only at hk hs hl;conv=>whnf
 refine ak (λh1=>?_) (λh1=>?_) <;> (rw[h1];conv=>whnf)
 .have hJ:k<o.w.ai.length:=by simp at h1;omega
  obtain⟨p,kh⟩:∃p,o.w.ai[k]? =some p:=⟨_,au hJ⟩
  have hd:bT z (o.w.ai.drop k)=(if (p.ah.af==z.af)=true then[⟨p.host,z⟩]else[])++bT z (o.w.ai.drop (k+1)):=by
   rw[drop_cons kh];unfold bT;rw[List.filter_cons];split <;> rfl
  rw[hd, <- List.append_assoc]at hs;refine⟨aD k,aR p,aN kh,?_⟩;conv=>whnf
  refine ak (λh2=>?_) (λh2=>?_) <;> (rw[h2];conv=>whnf)
  .rw[if_pos (show(p.ah.af==z.af)=true from h2)]at hs;have hP:=bR (cx' :=yP) rfl rfl (qp {o with aF:=ps} p.host z hz (by dsimp only;omega));refine⟨[3,5],_,hP,⟨rfl,rfl,rfl⟩,?_⟩;conv=>whnf
   refine aM ?_;conv=>whnf
   exact⟨(k+1,ps++[⟨p.host,z⟩]),⟨hJ,hs,by simp;omega⟩,by(show o.w.ai.length-(k+1)<o.w.ai.length-k;omega),aq.keep ⟨ae,ae,ae,ae,⟨ax (k:=k) (by omega),rfl⟩,trivial⟩⟩
  .rw[if_neg (show ¬(p.ah.af==z.af)=true by rw[h2];decide),List.append_nil]at hs;exact⟨(k+1,ps),⟨hJ,hs,by dsimp only;omega⟩,by(show o.w.ai.length-(k+1)<o.w.ai.length-k;omega),aq.keep ⟨ae,ae,ae,ae,⟨ax (k:=k) (by omega),rfl⟩,trivial⟩⟩
 .obtain rfl:k=o.w.ai.length:=by simp at h1;omega
  rw[List.drop_length]at hs;have hs:ps=o.aF++bT z o.w.ai:=by rw[<- hs];exact(List.append_nil _).symm
  subst hs
  (refine bV ?_;conv=>whnf)
  have kD:=uN z.af o.got;have kb:bW o.got z.af=(bG z.af o.got).getD []:=rfl;cases hf:bG z.af o.got with
  |none =>
   rw[hf]at kD kb;rw[show bG z.af (hZ o.got)=none from kD];conv=>whnf
   have e:(o.aF++bT z o.w.ai:List ao)=(aS o z).aF:=by unfold aS;rw[kb];simp[dN]
   refine⟨Unit,λ_=>⟨[(37,.d (.int .i64 0)),(38,.d (.int .i64 0))],bH {o with aF:=o.aF++bT z o.w.ai}⟩,λ_=>True,λ_=>0,⟨(),trivial,aq.keep⟩,λ_ _=>?_⟩;conv=>whnf
   refine .inl ⟨[],aq.keep trivial ⟨⟨rfl,rfl⟩,⟨rfl,rfl⟩,⟨congrArg (λr:List ao=>some (Blk.row 45 3 (r.map aR))) e,rfl⟩,⟨rfl,rfl⟩,trivial⟩,rfl⟩
  |some l =>
   rw[hf]at kD kb;have kb:bW o.got z.af=l:=kb;rw[kb]at hg;rw[show bG z.af (hZ o.got)=some (.slice 1 (l.map dm))from kD];conv=>whnf
   refine⟨Nat,λk=>⟨[(0,.ptr 100034 0),(3,.ptr 3 0),(36,.d (.slice 1 (l.map dm))),(37,.d (.int .i64 ((l.map dm).length:Int))),(38,.d (.int .i64 k))],(3,.box ((aX z).map .d))::bH {o with aF:=o.aF++bT z o.w.ai++dN z (l.take k)}⟩,
    λk=>k<=l.length,λk=>l.length-k,⟨0,Nat.zero_le _,aq.keep (by repeat' (first|exact trivial|refine⟨⟨rfl,rfl⟩,?_⟩)) ⟨⟨rfl,rfl⟩,⟨rfl,rfl⟩,⟨rfl,rfl⟩,⟨congrArg (λr:List ao=>some (Blk.row 45 3 (r.map aR))) (by simp[dN]),rfl⟩,⟨rfl,rfl⟩,trivial⟩⟩,λk hk=>?_⟩
   conv=>whnf
   refine ak (λh2=>?_) (λh2=>?_) <;> (rw[h2];conv=>whnf)
   .have hJ:k<l.length:=by simp at h2;omega
    obtain⟨n,kG⟩:∃n,l[k]? =some n:=⟨_,au hJ⟩
    refine⟨aD k,dm n,aN kG,?_⟩;conv=>whnf
    have hlen:(bT z o.w.ai).length<=o.w.ai.length:=by unfold bT;rw[aA];exact List.length_filter_le ..
    have hP:=bR (cx' :=yP) rfl rfl (qp {o with aF:=o.aF++bT z o.w.ai++dN z (l.take k)} n z hz (by simp[dN];omega));refine⟨[3],_,hP,⟨rfl,rfl,rfl⟩,?_⟩;conv=>whnf
    refine aM ?_;conv=>whnf
    have e:(o.aF++bT z o.w.ai++dN z (l.take k))++[⟨n,z⟩]=o.aF++bT z o.w.ai++dN z (l.take (k+1)):=by
     unfold dN;rw[List.take_add_one,kG];simp
    exact⟨k+1,hJ,by(show l.length-(k+1)<l.length-k;omega),aq.keep ⟨ae,ae,ae,ae,⟨ax (k:=k) (by omega),rfl⟩,trivial⟩ ⟨ae,ae,ae,⟨congrArg (λr:List ao=>some (Blk.row 45 3 (r.map aR))) e,rfl⟩,ae,trivial⟩⟩
   .obtain rfl:k=l.length:=by simp at h2;omega
    have e:(o.aF++bT z o.w.ai++dN z (l.take l.length):List ao)=(aS o z).aF:=by unfold aS;rw[kb,List.take_length]
    refine .inl ⟨[],aq.keep trivial ⟨⟨rfl,rfl⟩,⟨rfl,rfl⟩,⟨congrArg (λr:List ao=>some (Blk.row 45 3 (r.map aR))) e,rfl⟩,⟨rfl,rfl⟩,trivial⟩,rfl⟩
def jO(w:aZ)(g:List (Bs×List Int))(p:ao):Bool:=(decide ((p.ah.aj.length:Int)>0)&& !w.ai.any (fc p.host p.ah.af))&& !(bW g p.ah.af).contains p.host
def kv(w:aZ)(g:List (Bs×List Int))(p:ao):List (Bs×List Int):=if jO w g p=true then cM p.ah.af (bW g p.ah.af++[p.host]) g else g
def dF(w:aZ)(g:List (Bs×List Int))(l:List ao):List (Bs×List Int):=l.foldl (kv w) g
theorem vY{w:aZ}{g:List (Bs×List Int)}{l:List ao}{k:Nat}{p:ao}(h:l[k]? =some p):dF w g (l.take (k+1))=kv w (dF w g (l.take k)) p:=by
 unfold dF;rw[List.take_add_one,h,List.foldl_append];rfl
theorem Df(a:Bs)(l:List Int):∀g:List (Bs×List Int),cM a (D.slice 1 (l.map dm)) (hZ g)=hZ (cM a l g)
 |[]=>rfl
 |(k,x)::t=>by
  have:=Df a l t;show(if a=k then _ else(k,_)::cM a _ (hZ t))=hZ (if a=k then(k,l)::t else(k,x)::cM a l t)
  rw[this];split <;> rfl
theorem Bf(a:Bs):∀m:List (List UInt8×D),bG a (amD m)=(bG a m).map .d
 |[]=>rfl
 |(k,x)::t=>by
  have:=Bf a t;show(if a=k then _ else bG a (amD t))=Option.map _ (if a=k then _ else bG a t)
  rw[this];split <;> rfl
theorem Jl(a:Bs)(s:Nat)(x:D):∀m:List (List UInt8×D),(cM a (AV.own s) (amD m)).map (λq=>(q.1,iv s x q.2))=amD (cM a x m)
 |[]=>by
  show[(a,iv s x (AV.own s))]=[(a,AV.d x)]
  have:iv s x (AV.own s)= .d x:=by simp[iv]
  rw[this]
 |(k,y)::t=>by
  have:=Jl a s x t;show List.map _ (if a=k then(k,AV.own s)::amD t else(k,AV.d y)::cM a (AV.own s) (amD t))=amD (if a=k then(k,x)::t else(k,y)::cM a x t)
  split
  .have h1:iv s x (AV.own s)= .d x:=by simp[iv]
   rw[List.map_cons,h1];have:∀t:List (List UInt8×D),(amD t).map (λq=>(q.1,iv s x q.2))=amD t:=λt=>by
    unfold amD;rw[List.map_map];rfl
   rw[this];rfl
  .rw[List.map_cons,this];rfl
theorem IQ(a:Bs)(s:Nat)(f:AV->Bool)(h1:f (.own s)=true)(h2:∀x,f (.d x)=true):∀m:List (List UInt8×D),(cM a (AV.own s) (amD m)).all (λq=>f q.2)=true
 |[]=>by
  show(f (AV.own s)&&true)=true
  rw[h1];rfl
 |(k,y)::t=>by
  have:=IQ a s f h1 h2 t;have h3:∀t:List (List UInt8×D),(amD t).all (λq=>f q.2)=true:=λt=>by
   unfold amD;rw[List.all_map,aH];intro q _;exact h2 _
  show List.all (if a=k then(k,AV.own s)::amD t else(k,AV.d y)::cM a (AV.own s) (amD t)) _=true
  split
  .rw[List.all_cons,h1,h3];rfl
  .rw[List.all_cons,h2,this];rfl
def iI(o:bz):bz:=if o.aF=[]then o else{o with got:=dF o.w o.got o.aF,bq:=o.bq++[o.aF],aF:=[]}
noncomputable def uc:Cx:={cx with chg:=gX [(113,10)],bld:=[63,76]}
theorem UH:bD uc:=bp
theorem Jw:uc.P.follows .mixedOrders=true:=mixed
theorem Ah(o:bz)(hn:o.w.ai.length<=1000)(hp:o.aF.length<=100000)(hs:o.bq.length<=1000)(kg:∀k p,o.aF[k]? =some p->(bW (dF o.w o.got (o.aF.take k)) p.ah.af).length<=100000)
 (hz:∀p∈o.aF,p.ah.aj.length<=100000) (yW:∀k p,o.aF[k]? =some p->jO o.w (dF o.w o.got (o.aF.take k)) p=true->bG p.ah.af (dF o.w o.got (o.aF.take k))=none) :
 FnP uc pvW 115 [.ptr 100034 0] (bH o) (some (.tuple [],bH (iI o))):=by
 refine bt [] (fun|5=>[33333,55555]|6=>[55555,66666]|8=>[55555,90040]|_=>[]) UH Jw Tryz.func115 ?_;conv=>whnf
 refine ak (λh0=>?_) (λh0=>?_) <;> (rw[h0];conv=>whnf)
 .have hl:o.aF=[]:=by simpa using h0
  have e:iI o=o:=by unfold iI;rw[if_pos hl]
  rw[e];exact .inl ⟨[],aq.keep trivial,rfl⟩
 have kC:o.aF≠[]:=by simpa using h0
 have e:iI o={o with got:=dF o.w o.got o.aF,bq:=o.bq++[o.aF],aF:=[]}:=by unfold iI;rw[if_neg kC]
 rw[e];refine⟨Nat,λk=>⟨[(0,.ptr 100034 0),(14,.own 90040),(15,.d (.int .i64 ((o.aF.map aR).length:Int))),(16,.d (.int .i64 k))],bH {o with got:=dF o.w o.got (o.aF.take k)}⟩,
  λk=>k<=o.aF.length,λk=>o.aF.length-k,⟨0,Nat.zero_le _,aq.keep⟩,λk hk=>?_⟩
 conv=>whnf
 refine ak (λh1=>?_) (λh1=>?_) <;> (rw[h1];conv=>whnf)
 .have hJ:k<o.aF.length:=by simp at h1;omega
  obtain⟨p,kh⟩:∃p,o.aF[k]? =some p:=⟨_,au hJ⟩
  have hQ:=vY (w:=o.w) (g:=o.got) kh;have xd :=kg k p kh;have xx :=yW k p kh;have yI:=hz p (aC kh);generalize kO:dF o.w o.got (o.aF.take k)=g at hQ xd xx ⊢;refine⟨aD k,by(show k<_;rw[aA];exact hJ),?_⟩;conv=>whnf
  refine⟨aR p,aN kh,?_⟩;conv=>whnf
  refine⟨_,aq.keep (sl:=[(0,.ptr 100034 0),(14,.own 90040),(15,.d (.int .i64 ((o.aF.map aR).length:Int))),(16,.d (.int .i64 k)),(3,.ptr 3 0),(4,.d (.str p.ah.af))]) (h:=(3,.box ((aR p).map .d))::bH {o with got:=g}) (by repeat' (first|exact trivial|refine⟨⟨rfl,rfl⟩,?_⟩)) ⟨⟨rfl,rfl⟩,⟨rfl,rfl⟩,⟨congrArg (λg=>some (Blk.smap (hZ g))) kO,rfl⟩,⟨rfl,rfl⟩,⟨rfl,rfl⟩,trivial⟩,?_⟩;conv=>whnf
  (refine cu ?_;conv=>whnf)
  have ka:jO o.w g p=false->g=dF o.w o.got (o.aF.take (k+1)):=λh=>by rw[hQ];unfold kv;rw[if_neg (by rw[h];decide)]
  have hC:=bU (pv' :=pvW) (bR (cx' :=uc) rfl rfl (lh o.w p.host p.ah.af (by omega)));have kD:=uN p.ah.af g;have kb:bW g p.ah.af=(bG p.ah.af g).getD []:=rfl;have hY:jO o.w g p=((decide ((p.ah.aj.length:Int)>0)&& !o.w.ai.any (fc p.host p.ah.af))&& !(bW g p.ah.af).contains p.host):=rfl;refine ak (λh2=>?_) (λh2=>?_) <;> (rw[h2];conv=>whnf)
  .have h2:decide ((p.ah.aj.length:Int)>0)=true:=by simpa using h2
   rw[h2]at hY;generalize o.w.ai.any (fc p.host p.ah.af)=b at hC hY;refine⟨[3,100034,90032,90040,90041],_,hC,⟨rfl,rfl,rfl⟩,?_⟩;conv=>whnf
   refine aM ?_;conv=>whnf
   cases b with
   |true =>
    have hM:=ka (by rw[hY];rfl);conv=>whnf
    exact⟨k+1,hJ,by(show o.aF.length-(k+1)<o.aF.length-k;omega),aq.keep ⟨ae,ae,ae,⟨ax (k:=k) (by omega),rfl⟩,trivial⟩ ⟨ae,⟨congrArg (λg=>some (Blk.smap (hZ g))) hM,rfl⟩,ae,ae,trivial⟩⟩
   |false =>
   conv=>whnf
   cases hf:bG p.ah.af g with
   |none =>
    rw[hf]at kD kb;rw[show bG p.ah.af (hZ g)=none from kD];conv=>whnf
    have kb:bW g p.ah.af=[]:=kb;rw[kb]at hY
    (refine⟨_,_,kZ [] p.host (by simp),?_⟩;conv=>whnf)
    have hM:dF o.w o.got (o.aF.take (k+1))=cM p.ah.af [p.host] g:=by rw[hQ];unfold kv;rw[if_pos (by rw[hY];rfl),kb];rfl
    refine⟨_,(aq.keep (sl:=[(0,.ptr 100034 0),(14,.own 90040),(15,.d (.int .i64 ((o.aF.map aR).length:Int))),(16,.d (.int .i64 k)),(3,.ptr 3 0),(4,.d (.str p.ah.af))]) (h:=(3,.box ((aR p).map .d))::bH {o with got:=g})).trans (aK.OF 90032 (hZ g) rfl).toP,?_⟩;conv=>whnf
    (refine cu ?_;conv=>whnf)
    refine⟨none,by rw[Bf,kD];rfl,?_⟩;conv=>whnf
    repeat (refine cP ?_;conv=>whnf)
    refine⟨bB rfl,bB rfl,?_⟩;conv=>whnf
    repeat (refine cP ?_;conv=>whnf)
    have yO:(cM p.ah.af (AV.own 64) (amD (hZ g))).map (λq=>(q.1,iv 64 (.slice 1 [[.int .i64 p.host]]) q.2))=amD (hZ (dF o.w o.got (o.aF.take (k+1)))):=by
     rw[Jl,hM, <- Df];rfl
    refine⟨k+1,hJ,by(show o.aF.length-(k+1)<o.aF.length-k;omega),?_⟩;refine aq.trans (b:=⟨[(0,.ptr 100034 0),(14,.own 90040),(15,.d (.int .i64 ((o.aF.map aR).length:Int))),(16,.d (.int .i64 ((k+1:Nat):Int)))],[(100034,.box (QM true {o with got:=g})),(90032,.dL (cM p.ah.af (AV.own 64) (amD (hZ g)))),(64,.row 3 1 [[.int .i64 p.host]]),(90040,.row 45 3 (o.aF.map aR)),(90041,.row 40 1 (o.bq.map dD))]⟩) (aq.keep ⟨ae,ae,ae,⟨ax (k:=k) (by omega),rfl⟩,trivial⟩ ⟨ae,⟨rfl,IQ _ _ _ rfl (λ_=>rfl) _⟩,ae,ae,ae,trivial⟩) ?_;refine aq.trans (aq.ss [64]) ?_
    refine aq.trans (aK.toP (aK.NX 90032 (hZ (dF o.w o.got (o.aF.take (k+1)))) ?_)) ?_
    .exact congrArg (λm=>some (Blk.dL m)) yO
    .exact aq.keep
   |some l =>
    rw[hf]at kD kb;have kb:bW g p.ah.af=l:=kb;rw[show bG p.ah.af (hZ g)=some (.slice 1 (l.map dm))from kD];conv=>whnf
    rw[kb]at xd
    (refine⟨_,_,kZ l p.host xd,?_⟩;conv=>whnf)
    cases hc:l.contains p.host with
    |false =>
     have:=xx (by rw[hY,kb,hc];rfl);rw[hf]at this;cases this
    |true =>
     have hM:=ka (by rw[hY,kb,hc];rfl);conv=>whnf
     exact⟨k+1,hJ,by(show o.aF.length-(k+1)<o.aF.length-k;omega),aq.keep ⟨ae,ae,ae,⟨ax (k:=k) (by omega),rfl⟩,trivial⟩ ⟨ae,⟨congrArg (λg=>some (Blk.smap (hZ g))) hM,rfl⟩,ae,ae,trivial⟩⟩
  .have h2:decide ((p.ah.aj.length:Int)>0)=false:=by simpa using h2
   have hM:=ka (by rw[hY,h2];rfl);exact⟨k+1,hJ,by(show o.aF.length-(k+1)<o.aF.length-k;omega),aq.keep ⟨ae,ae,ae,⟨ax (k:=k) (by omega),rfl⟩,trivial⟩ ⟨ae,⟨congrArg (λg=>some (Blk.smap (hZ g))) hM,rfl⟩,ae,ae,trivial⟩⟩
 .obtain rfl:k=o.aF.length:=by simp at h1;omega
  have xt:dF o.w o.got (o.aF.take o.aF.length)=dF o.w o.got o.aF:=by rw[List.take_length]
  refine⟨_,aq.keep (sl:=[(0,.ptr 100034 0)]) (h:=bH {o with got:=dF o.w o.got o.aF}) (by repeat' (first|exact trivial|refine⟨⟨rfl,rfl⟩,?_⟩)) ⟨⟨rfl,rfl⟩,⟨congrArg (λg=>some (Blk.smap (hZ g))) xt,rfl⟩,⟨rfl,rfl⟩,⟨rfl,rfl⟩,trivial⟩,?_⟩;conv=>whnf
  (refine bV ?_;conv=>whnf)
  refine⟨by simp;omega,by simp;omega,?_⟩;conv=>whnf
  have xm:(o.bq.map dD)++[[.slice 3 (o.aF.map aR)]]=(o.bq++[o.aF]).map dD:=by rw[List.map_append];rfl
  refine gz (aq.trans (b:=⟨[(0,.ptr 100034 0)],[(100034,.box ((bu o.w).map .d++[.d (.int .i64 o.since),.d (.int .i64 o.aO),.d (.str o.ah.af),.d (.slice 5 (o.ah.aj.map aw)),.d (.int .i64 o.aP),.omap 90032,.nil 3,.own 90041])),(90032,.smap (hZ (dF o.w o.got o.aF))),(90041,.row 40 1 ((o.bq++[o.aF]).map dD))]⟩) (aq.keep (by repeat' (first|exact trivial|refine⟨⟨rfl,rfl⟩,?_⟩)) ⟨⟨rfl,rfl⟩,⟨rfl,rfl⟩,⟨congrArg (λr=>some (Blk.row 40 1 r)) xm,rfl⟩,trivial⟩) (aq.jv 100034 13 90040 3 _ 45 3 rfl rfl rfl (by decide))) rfl rfl rfl
abbrev uj(a:Bs):Option (List Int)->List (Bs×List Int)
 |none=>[]
 |some l=>[(a,l)]
abbrev Cg(o:bz)(a:Bs):Option (List Int)->List (Nat×Blk)
 |none=>bH {o with got:=[]}
 |some l=>[(100034,.box (QM true o)),(90032,.dL [(a,.own 90060)]),(90060,.row 3 1 (l.map dm)),(90040,.row 45 3 (o.aF.map aR)),(90041,.row 40 1 (o.bq.map dD))]
theorem yh(o:bz)(a:Bs)(hn:o.w.ai.length<=1000)(hp:o.aF.length<=1000)(hs:o.bq.length<=1000)(hg:o.got=[])(hz:∀p∈o.aF,p.ah.aj.length<=100000)(ha:∀p∈o.aF,p.ah.af=a) :
 FnP uc pvW 115 [.ptr 100034 0] (bH o) (some (.tuple [],bH (iI o))):=by
 refine bt [] (fun|5=>[33333,55555]|6=>[55555,66666]|8=>[55555,90040]|_=>[]) UH Jw Tryz.func115 ?_;conv=>whnf
 refine ak (λh0=>?_) (λh0=>?_) <;> (rw[h0];conv=>whnf)
 .have hl:o.aF=[]:=by simpa using h0
  have e:iI o=o:=by unfold iI;rw[if_pos hl]
  rw[e];exact .inl ⟨[],aq.keep trivial,rfl⟩
 have kC:o.aF≠[]:=by simpa using h0
 have e:iI o={o with got:=dF o.w [] o.aF,bq:=o.bq++[o.aF],aF:=[]}:=by unfold iI;rw[if_neg kC,hg]
 rw[e];refine⟨Nat×Option (List Int),λq=>⟨[(0,.ptr 100034 0),(14,.own 90040),(15,.d (.int .i64 ((o.aF.map aR).length:Int))),(16,.d (.int .i64 q.1))],Cg o a q.2⟩,
  λq=>q.1<=o.aF.length/\dF o.w [] (o.aF.take q.1)=uj a q.2/\(q.2.getD []).length<=q.1,λq=>o.aF.length-q.1,⟨(0,none),⟨Nat.zero_le _,rfl,Nat.le_refl _⟩,aq.keep (by repeat' (first|exact trivial|refine⟨⟨rfl,rfl⟩,?_⟩)) ⟨⟨rfl,rfl⟩,⟨congrArg (λg=>some (Blk.smap (hZ g))) hg,rfl⟩,⟨rfl,rfl⟩,⟨rfl,rfl⟩,trivial⟩⟩,?_⟩
 rintro⟨k,g⟩ ⟨hk,kO,kg⟩;dsimp only at hk kO kg;have yB:∀p,o.aF[k]? =some p->k<o.aF.length:=λp h=>(aB.1 h).1
 cases g with
 |none =>
  conv=>whnf
  refine ak (λh1=>?_) (λh1=>?_) <;> (rw[h1];conv=>whnf)
  .have hJ:k<o.aF.length:=by simp at h1;omega
   obtain⟨p,kh⟩:∃p,o.aF[k]? =some p:=⟨_,au hJ⟩
   have hQ:=vY (w:=o.w) (g:=[]) kh;rw[kO]at hQ;have yI:=hz p (aC kh);have xN:=ha p (aC kh);subst xN;refine⟨aD k,by(show k<_;rw[aA];exact hJ),?_⟩;conv=>whnf
   refine⟨aR p,aN kh,?_⟩;conv=>whnf
   refine⟨_,aq.keep (sl:=[(0,.ptr 100034 0),(14,.own 90040),(15,.d (.int .i64 ((o.aF.map aR).length:Int))),(16,.d (.int .i64 k)),(3,.ptr 3 0),(4,.d (.str p.ah.af))]) (h:=(3,.box ((aR p).map .d))::Cg o p.ah.af none),?_⟩;conv=>whnf
   (refine cu ?_;conv=>whnf)
   have ka:jO o.w [] p=false->dF o.w [] (o.aF.take (k+1))=uj p.ah.af none:=λh=>by rw[hQ];unfold kv;rw[if_neg (by rw[h];decide)]
   have hC:=bU (pv' :=pvW) (bR (cx' :=uc) rfl rfl (lh o.w p.host p.ah.af (by omega)));have hY:jO o.w [] p=((decide ((p.ah.aj.length:Int)>0)&& !o.w.ai.any (fc p.host p.ah.af))&& !([]:List Int).contains p.host):=rfl;refine ak (λh2=>?_) (λh2=>?_) <;> (rw[h2];conv=>whnf)
   .have h2:decide ((p.ah.aj.length:Int)>0)=true:=by simpa using h2
    rw[h2]at hY;generalize o.w.ai.any (fc p.host p.ah.af)=b at hC hY;refine⟨[3,100034,90032,90040,90041],_,hC,⟨rfl,rfl,rfl⟩,?_⟩;conv=>whnf
    refine aM ?_;conv=>whnf
    cases b with
    |true =>
     have hM:=ka (by rw[hY];rfl);conv=>whnf
     exact⟨(k+1,none),⟨hJ,hM,Nat.zero_le _⟩,by(show o.aF.length-(k+1)<o.aF.length-k;omega),aq.keep ⟨ae,ae,ae,⟨ax (k:=k) (by omega),rfl⟩,trivial⟩⟩
    |false =>
    conv=>whnf
    (refine⟨_,_,kZ [] p.host (by simp),?_⟩;conv=>whnf)
    have hM:dF o.w [] (o.aF.take (k+1))=uj p.ah.af (some [p.host]):=by rw[hQ];unfold kv;rw[if_pos (by rw[hY];rfl)];rfl
    refine⟨_,(aq.keep (sl:=[(0,.ptr 100034 0),(14,.own 90040),(15,.d (.int .i64 ((o.aF.map aR).length:Int))),(16,.d (.int .i64 k)),(3,.ptr 3 0),(4,.d (.str p.ah.af))]) (h:=(3,.box ((aR p).map .d))::Cg o p.ah.af none)).trans (aK.OF 90032 [] rfl).toP,?_⟩;conv=>whnf
    (refine cu ?_;conv=>whnf)
    refine⟨none,rfl,?_⟩;conv=>whnf
    repeat (refine cP ?_;conv=>whnf)
    refine⟨bB rfl,bB rfl,?_⟩;conv=>whnf
    repeat (refine cP ?_;conv=>whnf)
    refine⟨(k+1,some [p.host]),⟨hJ,hM,by(show 1<=k+1;omega)⟩,by(show o.aF.length-(k+1)<o.aF.length-k;omega),?_⟩;refine aq.trans (aq.name 64 90060 rfl rfl) ?_;exact aq.keep ⟨ae,ae,ae,⟨ax (k:=k) (by omega),rfl⟩,trivial⟩
   .have h2:decide ((p.ah.aj.length:Int)>0)=false:=by simpa using h2
    have hM:=ka (by rw[hY,h2];rfl);exact⟨(k+1,none),⟨hJ,hM,Nat.zero_le _⟩,by(show o.aF.length-(k+1)<o.aF.length-k;omega),aq.keep ⟨ae,ae,ae,⟨ax (k:=k) (by omega),rfl⟩,trivial⟩⟩
  .obtain rfl:k=o.aF.length:=by simp at h1;omega
   have xt:dF o.w [] o.aF=[]:=by rw[List.take_length]at kO;exact kO
   rw[xt];refine⟨_,aq.keep (sl:=[(0,.ptr 100034 0)]) (h:=bH {o with got:=[]}),?_⟩;conv=>whnf
   (refine bV ?_;conv=>whnf)
   refine⟨by simp;omega,by simp;omega,?_⟩;conv=>whnf
   have xm:(o.bq.map dD)++[[.slice 3 (o.aF.map aR)]]=(o.bq++[o.aF]).map dD:=by rw[List.map_append];rfl
   refine gz (aq.trans (b:=⟨[(0,.ptr 100034 0)],[(100034,.box ((bu o.w).map .d++[.d (.int .i64 o.since),.d (.int .i64 o.aO),.d (.str o.ah.af),.d (.slice 5 (o.ah.aj.map aw)),.d (.int .i64 o.aP),.omap 90032,.nil 3,.own 90041])),(90032,.smap []),(90041,.row 40 1 ((o.bq++[o.aF]).map dD))]⟩) (aq.keep (by repeat' (first|exact trivial|refine⟨⟨rfl,rfl⟩,?_⟩)) ⟨⟨rfl,rfl⟩,⟨rfl,rfl⟩,⟨congrArg (λr=>some (Blk.row 40 1 r)) xm,rfl⟩,trivial⟩) (aq.jv 100034 13 90040 3 _ 45 3 rfl rfl rfl (by decide))) rfl rfl rfl
 |some l =>
  have kx:l.length<=1000:=by have:l.length<=k:=kg;omega
  conv=>whnf
  refine ak (λh1=>?_) (λh1=>?_) <;> (rw[h1];conv=>whnf)
  .have hJ:k<o.aF.length:=by simp at h1;omega
   obtain⟨p,kh⟩:∃p,o.aF[k]? =some p:=⟨_,au hJ⟩
   have hQ:=vY (w:=o.w) (g:=[]) kh;rw[kO]at hQ;have yI:=hz p (aC kh);have xN:=ha p (aC kh);subst xN;have kb:bW (uj p.ah.af (some l)) p.ah.af=l:=by
    unfold bW;show Option.getD (if p.ah.af=p.ah.af then some l else none) []=l
    rw[if_pos rfl];rfl
   refine⟨aD k,by(show k<_;rw[aA];exact hJ),?_⟩;conv=>whnf
   refine⟨aR p,aN kh,?_⟩;conv=>whnf
   refine⟨_,aq.keep (sl:=[(0,.ptr 100034 0),(14,.own 90040),(15,.d (.int .i64 ((o.aF.map aR).length:Int))),(16,.d (.int .i64 k)),(3,.ptr 3 0),(4,.d (.str p.ah.af))]) (h:=(3,.box ((aR p).map .d))::Cg o p.ah.af (some l)),?_⟩;conv=>whnf
   (refine cu ?_;conv=>whnf)
   have ka:jO o.w (uj p.ah.af (some l)) p=false->dF o.w [] (o.aF.take (k+1))=uj p.ah.af (some l):=λh=>by rw[hQ];unfold kv;rw[if_neg (by rw[h];decide)]
   have hC:=bU (pv' :=pvW) (bR (cx' :=uc) rfl rfl (lh o.w p.host p.ah.af (by omega)));have hY:jO o.w (uj p.ah.af (some l)) p=((decide ((p.ah.aj.length:Int)>0)&& !o.w.ai.any (fc p.host p.ah.af))&& !(bW (uj p.ah.af (some l)) p.ah.af).contains p.host):=rfl;rw[kb]at hY;have yw:bG p.ah.af [(p.ah.af,AV.own 90060)]=some (.own 90060):=if_pos rfl;refine ak (λh2=>?_) (λh2=>?_) <;> (rw[h2];conv=>whnf)
   .have h2:decide ((p.ah.aj.length:Int)>0)=true:=by simpa using h2
    rw[h2]at hY;generalize o.w.ai.any (fc p.host p.ah.af)=b at hC hY;refine⟨[3,100034,90032,90040,90041,90060],_,hC,⟨rfl,rfl,rfl⟩,?_⟩;conv=>whnf
    refine aM ?_;conv=>whnf
    cases b with
    |true =>
     have hM:=ka (by rw[hY];rfl);conv=>whnf
     exact⟨(k+1,some l),⟨hJ,hM,by(show l.length<=k+1;have:l.length<=k:=kg;omega)⟩,by(show o.aF.length-(k+1)<o.aF.length-k;omega),aq.keep ⟨ae,ae,ae,⟨ax (k:=k) (by omega),rfl⟩,trivial⟩⟩
    |false =>
    conv=>whnf
    refine⟨_,yw,?_⟩;conv=>whnf
    refine⟨_,kZ l p.host (by omega),by kernel_rfl,?_⟩;conv=>whnf
    cases hc:l.contains p.host with
    |true =>
     have hM:=ka (by rw[hY,hc];rfl);conv=>whnf
     exact⟨(k+1,some l),⟨hJ,hM,by(show l.length<=k+1;have:l.length<=k:=kg;omega)⟩,by(show o.aF.length-(k+1)<o.aF.length-k;omega),aq.keep ⟨ae,ae,ae,⟨ax (k:=k) (by omega),rfl⟩,trivial⟩⟩
    |false =>
    conv=>whnf
    have hM:dF o.w [] (o.aF.take (k+1))=uj p.ah.af (some (l++[p.host])):=by
     rw[hQ];unfold kv;rw[if_pos (by rw[hY,hc];rfl),kb];show(if p.ah.af=p.ah.af then _ else _)=_
     rw[if_pos rfl]
    have xA:cM p.ah.af (AV.own 90060) [(p.ah.af,AV.undef)]=[(p.ah.af,AV.own 90060)]:=if_pos rfl;refine⟨_,aq.keep (sl:=[(0,.ptr 100034 0),(14,.own 90040),(15,.d (.int .i64 ((o.aF.map aR).length:Int))),(16,.d (.int .i64 k)),(3,.ptr 3 0),(4,.d (.str p.ah.af))]) (h:=(3,.box ((aR p).map .d))::Cg o p.ah.af (some l)),?_⟩;conv=>whnf
    (refine cu ?_;conv=>whnf)
    refine⟨_,yw,?_⟩;conv=>whnf
    repeat (refine cP ?_;conv=>whnf)
    refine⟨by simp;omega,by simp;omega,?_⟩;conv=>whnf
    repeat (refine cP ?_;conv=>whnf)
    have xM:(l.map dm)++[[.int .i64 p.host]]=(l++[p.host]).map dm:=by rw[List.map_append];rfl
    exact⟨(k+1,some (l++[p.host])),⟨hJ,hM,by(show(l++[p.host]).length<=k+1;have:l.length<=k:=kg;simp;omega)⟩,by(show o.aF.length-(k+1)<o.aF.length-k;omega),aq.keep ⟨ae,ae,ae,⟨ax (k:=k) (by omega),rfl⟩,trivial⟩ ⟨ae,⟨congrArg (λm=>some (Blk.dL m)) xA,rfl⟩,⟨congrArg (λr=>some (Blk.row 3 1 r)) xM,rfl⟩,ae,ae,trivial⟩⟩
   .have h2:decide ((p.ah.aj.length:Int)>0)=false:=by simpa using h2
    have hM:=ka (by rw[hY,h2];rfl);exact⟨(k+1,some l),⟨hJ,hM,by(show l.length<=k+1;have:l.length<=k:=kg;omega)⟩,by(show o.aF.length-(k+1)<o.aF.length-k;omega),aq.keep ⟨ae,ae,ae,⟨ax (k:=k) (by omega),rfl⟩,trivial⟩⟩
  .obtain rfl:k=o.aF.length:=by simp at h1;omega
   have xt:dF o.w [] o.aF=[(a,l)]:=by rw[List.take_length]at kO;exact kO
   rw[xt];refine⟨_,aq.trans (aq.keep (sl:=[(0,.ptr 100034 0)]) (h:=Cg o a (some l))) (aq.ss [90060]),?_⟩;conv=>whnf
   (refine bV ?_;conv=>whnf)
   refine⟨by simp;omega,by simp;omega,?_⟩;conv=>whnf
   have xm:(o.bq.map dD)++[[.slice 3 (o.aF.map aR)]]=(o.bq++[o.aF]).map dD:=by rw[List.map_append];rfl
   refine gz (aq.trans (b:=⟨[(0,.ptr 100034 0)],[(100034,.box ((bu o.w).map .d++[.d (.int .i64 o.since),.d (.int .i64 o.aO),.d (.str o.ah.af),.d (.slice 5 (o.ah.aj.map aw)),.d (.int .i64 o.aP),.omap 90032,.nil 3,.own 90041])),(90032,.dL (amD (hZ [(a,l)]))),(90041,.row 40 1 ((o.bq++[o.aF]).map dD))]⟩) (aq.keep (by repeat' (first|exact trivial|refine⟨⟨rfl,rfl⟩,?_⟩)) ⟨⟨rfl,rfl⟩,⟨rfl,rfl⟩,⟨congrArg (λr=>some (Blk.row 40 1 r)) xm,rfl⟩,trivial⟩) (aq.trans (aK.toP (aK.NX 90032 (hZ [(a,l)]) rfl)) (aq.jv 100034 13 90040 3 _ 45 3 rfl rfl rfl (by decide)))) rfl rfl rfl
end Go.Proofs.YtodofogcincleaaGreatDoor
namespace NQ
open Go Go.RowKit
theorem KI{cx:Cx}{pv:Int->Value}{f:FuncId}{e:TypeId}{sz s:Nat}{rows rows' :List (List D)}{fl fl' :Bool}{args:List D}(h:FnP cx pv f (.own s::args.map .d) [(s,.row e sz rows fl)] (some (.own s,[(s,.row e sz rows' fl')]))):FnR cx f true e sz rows fl args rows' :=by
 refine⟨h.1,λO w v vs xs hO hG kA hv h1 h2 h3 h4 h5 h6 h7=>?_⟩;have kj:∀{b:Blk} {x:Nat},live [(s,b)] x ↔ x=s:=λ{b x}=>cv
 have hH:∀{b:Blk} {τ:Nat->Value} {g:Nat},dO [(s,b)] τ g ↔ home (τ s)=some g:=λ{b τ g}=>by
  constructor
  .rintro⟨x,hx,e⟩;rw[kj.1 hx]at e;exact e
  .intro e;exact⟨s,kj.2 rfl,e⟩
 have hk:∀{b:Blk},bw w w O (Own (λb=>O b/\home v≠some b) (live [(s,b)]) λ_=>v):=λ{b}=>bw.less λb hb=>by
  rcases hb with hb|⟨x,_,e⟩
  .exact hb.1
  .exact hv b e
 refine(h.2 (λb=>O b/\home v≠some b) w (λ_=>v) (#[v]++vs) (λb hb=>hO b hb.1) hG (λg cells hg=>⟨λhb=>kA g cells hg hb.1,λhb=>kA g cells hg (hv g (hH.1 hb))⟩) (λb hb hh=>hb.2 (hH.1 hh)) ⟨λx b hb=>?_,λx y b hx hy _ _=>by rw[kj.1 hx,kj.1 hy]⟩ (by simp[h6,Nat.add_comm]) λj c hj=>?_).mono λen w' =>?_
 .have hx:x=s:=kj.1 (aI.2 ⟨b,hb⟩);subst hx;rw[bl]at hb;cases hb;refine⟨xs,h1,λb hb=>hH.2 hb,⟨h3,h2⟩,h4,λi r j d hi hj=>?_⟩;obtain⟨u,hu,hd⟩:=h5 i r j d hi hj;exact⟨u,hu,hd.mono hk⟩
 .rcases j with _|j
  .cases hj;have:(#[v]++vs).getD 0 Go.undef=v:=by simp[bM,Array.getElem?_append]
   rw[this];exact .own (σ:=λ_=>v) s (kj.2 rfl)
  .rw[List.getElem?_cons_succ,bc]at hj;cases hd:args[j]? with
   |none=>rw[hd]at hj;cases hj
   |some d =>
    rw[hd]at hj;cases hj;have hJ:j<vs.size:=by rw[h6];exact(aB.1 hd).1
    have:(#[v]++vs).getD (j+1) Go.undef=vs.getD j Go.undef:=by simp[Array.getElem?_append,bM]
    rw[this];exact .d _ _ ((h7 j d hd).mono hk)
 .rintro⟨hf,u,σ',rfl,yS,_,hr⟩;obtain⟨yn,q1,q2,q3,q4,q5⟩:=yS.blk s _ (bl ..);have hu:u=σ' s:=by generalize hz:σ' s=z;cases hr;exact hz
  subst hu;refine⟨σ' s,yn,rfl,hf.os,hf.tape,hf.output,hf.size,λk hk kC=>hf.block k λhh=>?_,λg hg=>?_,q1,q4,λi r j d hi hj=>?_⟩
  .rcases hh with hh|hh
   .exact kC (hH.1 hh)
   .omega
  .rcases q2 g hg with hh|hh
   .exact .inl (hH.1 hh)
   .exact .inr hh
  .obtain⟨u,hu,hd⟩:=q5 i r j d hi hj;refine⟨u,hu,hd.mono (bw.less λb hb=>?_)⟩;rcases hb with hb|hb
   .exact .inl hb
   .exact .inr ⟨s,kj.2 rfl,hb⟩
end NQ
namespace NQ
open Go
theorem FnR.UP{cx:Cx}{f:FuncId}{eC:Bool}{e:TypeId}{sz:Nat}{rows:List (List D)}{fl:Bool}{args:List D}{rows' :List (List D)}(h:FnR cx f eC e sz rows false args rows'):FnR cx f eC e sz rows fl args rows' :=⟨h.1,λO w v vs xs a b c d e' f' =>h.2 O w v vs xs a b c d e' (λh=>by cases h)⟩
end NQ
namespace Go.Proofs.YtodofogcincleaaGreatDoor
open NQ Go.RowKit
def dE:List Datum->List Datum
 |[]=>[]
 |[a]=>[a]
 |a::b::t=>if a=b then dE (b::t)else a::dE (b::t)
def mE(l:List Datum)(m:Nat):List Datum:=((List.range m).filter λj=>decide (j=0)|| !decide (l[j]? =l[j-1]?)).filterMap (l[·]?)
theorem CC(l:List Datum)(m:Nat):mE l (m+1)=mE l m++(if decide (m=0)|| !decide (l[m]? =l[m-1]?)then l[m]?.toList else[]):=by
 unfold mE;rw[List.range_succ,List.filter_append,List.filterMap_append]
 congr 1
 by_cases h:(decide (m=0)|| !decide (l[m]? =l[m-1]?))=true
 .rw[if_pos h,List.filter_cons,if_pos h];cases hm:l[m]? <;> simp[hm]
 .rw[if_neg h,List.filter_cons,if_neg h];rfl
theorem CB(a:Datum)(t:List Datum):∀m,mE (a::t) (m+1)=a::(((List.range m).filter λj=> !decide (t[j]? =(a::t)[j]?)).filterMap (t[·]?)):=by
 intro m;unfold mE;rw[List.range_succ_eq_map,List.filter_cons_of_pos (by simp),List.filterMap_cons_some (b:=a) (by simp),List.filter_map,List.filterMap_map]
 congr 1
theorem sZ(a b:Datum):(a.text==b.text&&(a.n==b.n&&(a.m==b.m&&true)))=decide (a=b):=by
 cases a with|mk t n m =>
 cases b with|mk t' n' m' =>
 simp only[iH,Datum.mk.injEq];by_cases h1:t=t' <;> by_cases h2:n=n' <;> by_cases h3:m=m' <;> simp[h1,h2,h3]
theorem Px(l:List Datum)(h:1<=l.length):mE l 1=l.take 1:=by
 match l,h with
 |a::t,_=>rfl
theorem EO{l:List Datum}{m:Nat}{a b:Datum}(ha:l[m]? =some a)(hb:l[m-1]? =some b)(h:a≠b):mE l (m+1)=mE l m++[a]:=by
 rw[CC,ha,hb,if_pos (by simp[h])];rfl
theorem EP{l:List Datum}{m:Nat}{a b:Datum}(hm:1<=m)(ha:l[m]? =some a)(hb:l[m-1]? =some b)(h:a=b):mE l (m+1)=mE l m:=by
 rw[CC,ha,hb,if_neg (by simp[h];omega),List.append_nil]
theorem py:∀l:List Datum,mE l l.length=dE l
 |[]=>rfl
 |[a]=>rfl
 |a::b::t=>by
  have ih:=py (b::t);show mE (a::b::t) (t.length+1+1)=_
  rw[List.length_cons]at ih;rw[CB,List.range_succ_eq_map];rw[CB]at ih;show _=if a=b then dE (b::t)else a::dE (b::t)
  have kV:List.filterMap (λx=>(b::t)[x]?) (List.filter (λj=> !decide ((b::t)[j]? =(a::b::t)[j]?)) (List.map Nat.succ (List.range t.length)))=List.filterMap (λx=>t[x]?) (List.filter (λj=> !decide (t[j]? =(b::t)[j]?)) (List.range t.length)):=by
   rw[List.filter_map,List.filterMap_map];rfl
  by_cases e:a=b
  .subst e;rw[if_pos rfl,List.filter_cons_of_neg (by simp),kV,ih]
  .rw[if_neg e,List.filter_cons_of_pos (by simpa using λh=>e h.symm),List.filterMap_cons_some (b:=b) (by simp),kV,ih]
noncomputable def PF:Cx:={cx with bld:=[777001]}
theorem Vq:bD PF:=bp
theorem Tc:PF.P.follows .mixedOrders=true:=mixed
theorem ET(l:List Datum)(hl:l.length<=100000)(fl:Bool):FnR cx 126 true 70 3 (l.map aQ) fl [] ((dE l).map aQ):=by
 refine FnR.UP (Uf (cx:=PF) rfl rfl (KI (pv:=pv0) (s:=90020) (fl' :=false) ?_));refine bt [] (fun|7=>[33333]|14=>[33333]|15=>[33333]|_=>[]) Vq Tc Tryz.func126 ?_;conv=>whnf
 refine ak (λh1=>?_) (λh1=>?_) <;> (rw[h1];conv=>whnf)
 .have h2:l.length<2:=by simp at h1;omega
  have h3:dE l=l:=by
   match l,h2 with
   |[],_=>rfl
   |[a],_=>rfl
  rw[h3];exact cq rfl rfl rfl
 have h2:2<=l.length:=by simp at h1;omega
 refine⟨Nat,λk=>⟨[(0,.own 90020),(3,.d (.int .i64 k))],[(90020,.row 70 3 (l.map aQ))]⟩,λk=>1<=k/\k<=l.length/\mE l k=l.take k,λk=>l.length-k,
  ⟨1,⟨Nat.le_refl _,by omega,?_⟩,aq.keep ⟨ae,ae,trivial⟩⟩,?_⟩
 .exact Px l (by omega)
 rintro k ⟨yy,hk,hc⟩;conv=>whnf
 refine ak (λh3=>?_) (λh3=>?_) <;> (rw[h3];conv=>whnf)
 .have hJ:k<l.length:=by simp at h3;omega
  obtain⟨a,ha⟩:∃a,l[k]? =some a:=⟨_,au hJ⟩
  obtain⟨b,hb⟩:∃b,l[k-1]? =some b:=⟨_,au (by omega)⟩
  have kL:∀q:Nat,1<=q->q<=100000->IntKind.i64.wrap ((q:Int)-1)=((q-1:Nat):Int):=λq h1 h2=>by
   rw[show((q:Int)-1)=((q-1:Nat):Int) by omega];exact wrap_i64 (by omega) (by omega)
  (refine bV ?_;conv=>whnf)
  refine⟨aD k,by(show k<_;rw[aA];exact hJ),?_⟩;conv=>whnf
  refine⟨aQ a,aN ha,?_⟩;conv=>whnf
  rw[kL k yy (by omega)];refine⟨aD _,by(show k-1<_;rw[aA];omega),?_⟩;conv=>whnf
  refine⟨aQ b,aN hb,?_⟩;conv=>whnf
  refine ak (λh4=>?_) (λh4=>?_) <;> (rw[h4];conv=>whnf)
  .have hY:a=b:=by rw[sZ]at h4;exact of_decide_eq_true h4
   refine⟨aD k,by(show k<_;rw[aA];exact hJ),?_⟩;conv=>whnf
   refine⟨Nat×Nat×List Datum,λq=>⟨[(0,.own 90020),(3,.d (.int .i64 q.1)),(4,.tl 90020 3 k),(5,.d (.int .i64 q.2.1))],[(90020,.row 70 3 (q.2.2.map aQ))]⟩,
    λq=>(1<=q.2.1/\k+q.2.1<=l.length/\q.1<k+q.2.1)/\q.2.2.length=l.length/\q.2.2.take q.1=mE l (k+q.2.1)/\q.2.2.drop q.1=l.drop q.1,λq=>l.length-q.2.1,
    ⟨(k,1,l),⟨⟨Nat.le_refl _,by dsimp only;omega,by dsimp only;omega⟩,rfl,by dsimp only;rw[EP yy ha hb hY,hc],rfl⟩,aq.keep ⟨ae,ae,ae,ae,trivial⟩⟩,?_⟩
   rintro⟨kk,k2,R⟩ ⟨⟨yz,kP,yU⟩,hR,hT,hD⟩;dsimp only at yz kP yU hR hT hD;have kc:∀j,kk<=j->R[j]? =l[j]? :=λj hj=>by
    have:=congrArg (λq=>q[j-kk]?) hD;simpa [List.getElem?_drop,show kk+(j-kk)=j by omega] using this
   conv=>whnf
   refine ak (λh5=>?_) (λh5=>?_) <;> (rw[h5];conv=>whnf)
   .have xe:k+k2<l.length:=by simp[hR]at h5;omega
    obtain⟨x,hx⟩:∃x,l[k+k2]? =some x:=⟨_,au xe⟩
    obtain⟨y,hy⟩:∃y,l[k+k2-1]? =some y:=⟨_,au (by omega)⟩
    have yG :R[k+k2]? =some x:=by rw[kc _ (by omega)];exact hx
    have ze :R[k+(k2-1)]? =some y:=by rw[kc _ (by omega),show k+(k2-1)=k+k2-1 by omega];exact hy
    (refine bV ?_;conv=>whnf)
    refine⟨aD k2,by(show k+k2<_;rw[aA,hR];exact xe),?_⟩;conv=>whnf
    refine⟨aQ x,aN yG,?_⟩;conv=>whnf
    rw[kL k2 yz (by omega)];refine⟨aD _,by(show k+(k2-1)<_;rw[aA,hR];omega),?_⟩;conv=>whnf
    refine⟨aQ y,aN ze,?_⟩;conv=>whnf
    refine ak (λh6=>?_) (λh6=>?_) <;> (rw[h6];conv=>whnf)
    .have yj:x≠y:=by rw[sZ]at h6;intro e;simp[e]at h6
     refine⟨aD k2,by(show k+k2<_;rw[aA,hR];exact xe),?_⟩;conv=>whnf
     refine⟨aQ x,aN yG,?_⟩;conv=>whnf
     refine⟨aD kk,by(show kk<_;rw[aA,hR];omega),?_⟩;conv=>whnf
     obtain⟨z,hz⟩:∃z,R[kk]? =some z:=⟨_,au (by omega)⟩
     refine⟨aQ z,aN hz,?_⟩;conv=>whnf
     refine⟨(kk+1,k2+1,R.set kk x),⟨⟨by dsimp only;omega,by dsimp only;omega,by dsimp only;omega⟩,by(show(R.set kk x).length=_;rw[List.length_set,hR]),?_,?_⟩,by(show l.length-(k2+1)<l.length-k2;omega),aq.keep ⟨ae,⟨ax (k:=kk) (by omega),rfl⟩,ae,⟨ax (k:=k2) (by omega),rfl⟩,trivial⟩ ⟨⟨congrArg (λr=>some (Blk.row 70 3 r)) (List.map_set (f:=aQ) (l:=R) (i:=kk) (a:=x)).symm,rfl⟩,trivial⟩⟩
     .show(R.set kk x).take (kk+1)=mE l (k+k2+1)
      rw[EO hx hy yj, <- hT,List.take_add_one,List.getElem?_set_self (by omega),List.take_set_of_le (Nat.le_refl _)];rfl
     .show(R.set kk x).drop (kk+1)=_
      rw[List.drop_set_of_lt (by omega), <- List.drop_drop, <- List.drop_drop,hD]
    .have yj:x=y:=by rw[sZ]at h6;simpa using h6
     refine⟨(kk,k2+1,R),⟨⟨by dsimp only;omega,by dsimp only;omega,by dsimp only;omega⟩,hR,?_,hD⟩,by(show l.length-(k2+1)<l.length-k2;omega),aq.keep ⟨ae,ae,ae,⟨ax (k:=k2) (by omega),rfl⟩,trivial⟩⟩;show R.take kk=mE l (k+k2+1)
     rw[EP (by omega) hx hy yj,hT]
   .have xT:k+k2=l.length:=by simp[hR]at h5;omega
    rw[xT,py]at hT;refine⟨aD kk,by(show kk<_;rw[aA,hR];omega),?_⟩;conv=>whnf
    refine⟨by(show kk<_;rw[aA,hR];omega),?_⟩;conv=>whnf
    refine⟨aD kk,by(show kk<_;rw[List.length_append,List.length_take,List.length_replicate,aA,hR];omega),?_⟩;conv=>whnf
    have xh:∀z:List D,((R.map aQ).take kk++List.replicate ((R.map aQ).length-kk) z).take kk=(dE l).map aQ:=λz=>by
     rw[List.take_append_of_le_length (by rw[List.length_take,aA,hR];omega),List.take_take,Nat.min_self, <- List.map_take,hT]
    refine gz (aq.keep (sl:=[(2,.own 90020)]) (h:=[(90020,.row 70 3 ((dE l).map aQ))]) (by repeat' (first|exact trivial|refine⟨⟨rfl,rfl⟩,?_⟩)) ⟨⟨congrArg (λr=>some (Blk.row 70 3 r)) (xh _),rfl⟩,trivial⟩) rfl rfl rfl
  .have hY:a≠b:=by rw[sZ]at h4;intro e;simp[e]at h4
   refine⟨k+1,⟨by omega,hJ,?_⟩,by(show l.length-(k+1)<l.length-k;omega),aq.keep ⟨ae,⟨ax (k:=k) (by omega),rfl⟩,trivial⟩⟩;rw[EO ha hb hY,hc,List.take_add_one,ha];rfl
 .obtain rfl:k=l.length:=by simp at h3;omega
  have h4:dE l=l:=by rw[<- py,hc,List.take_length]
  rw[h4];exact cq rfl rfl rfl
theorem LB(o:bz)(z:aL)(s:Bs)(c:Int)(f:Int)(d:List Datum)(cut:Bs)(l:List Int)(hz:ZSm z)(hh:∀n∈l,bK o.w n=true)(hl:l.length<=1000)(hd:d.length<=100000)(kd:(wfR (dj o.w o.aP cut l (bL z s c f d)) z.af 4).2=true->(wfR (dj o.w o.aP cut l (bL z s c f d)) z.af 4).1.data≠[]) :
 FnP dy pvW 120 [.ptr 100034 0,.agg ((aX z).map .d),.own 84] ((84,.eH 177 1 [[lr s c f d],[mZ l cut]])::gBz o) (ng (gBz o) (de o.since o.aO (dj o.w o.aP cut l (bL z s c f d)))):=by
 refine bt [100004] slF GN tn Tryz.func120 ?_;conv=>whnf
 have hC:=bU (pv' :=pvW) (bR (cx' :=dy) rfl rfl (km z (by have:=hz.1;omega) hz.2));refine⟨[4,6,84,100003,100034,90032,90040,90041],_,hC,⟨rfl,rfl,rfl⟩,?_⟩;conv=>whnf
 refine aM ?_;conv=>whnf
 have kf:=bU (pv' :=pvW) (bR (cx' :=dy) rfl rfl (eV z s c f d (by have:=hz.1;omega) hd));have kj:=gW z s c f d;have kH:(bL z s c f d).af=z.af:=rfl;generalize kM:bL z s c f d=z1 at kf kj kH kd ⊢;have kz:=bU (pv' :=pvW) (bR (cx' :=dy) rfl rfl (rH o cut l z1 hh hl (by have:=hz.1;omega)));have kx:=pg o.w o.aP cut l z1;have kp:(dj o.w o.aP cut l z1).af=z1.af:=iw ..;generalize kT:dj o.w o.aP cut l z1=z2 at kz kx kp kd ⊢
 refine⟨Nat,λk=>⟨[(0,.ptr 100034 0),(4,.ptr 100004 0),(6,.ptr 6 0),(15,.own 84),(16,.d (.int .i64 2)),(17,.d (.int .i64 k))],fU (match k with|0=>z|1=>z1|_=>z2)++(6,.box [.d (.str []),.nil 5])::(84,.eH 177 1 [[lr s c f d],[mZ l cut]])::gBz o⟩,
  λk=>k<=2,λk=>2-k,⟨0,Nat.zero_le _,(aq.name 4 100004 rfl rfl).trans (aq.keep)⟩,λk hk=>?_⟩
 rcases k with _|_|_|k
 case succ.succ.succ=>omega
 .conv=>whnf
  refine⟨by decide,bB rfl,?_⟩;conv=>whnf
  refine⟨_,rfl,?_⟩;conv=>whnf
  refine⟨[6,84,100003,100034,90032,90040,90041],_,kf,⟨by kernel_rfl,by kernel_rfl,by kernel_rfl⟩,?_⟩;conv=>whnf
  refine aM ?_;conv=>whnf
  exact⟨1,by decide,by(show 2-1<2-0;omega),aq.keep⟩
 .conv=>whnf
  refine⟨by decide,bB rfl,?_⟩;conv=>whnf
  refine⟨_,rfl,?_⟩;conv=>whnf
  refine⟨[6,84],_,kz,⟨by kernel_rfl,by kernel_rfl,by kernel_rfl⟩,?_⟩;conv=>whnf
  refine aM ?_;conv=>whnf
  exact⟨2,by decide,by(show 2-2<2-1;omega),aq.keep⟩
 have hT:=qd o z2 (by have:=hz.1;omega) (by rw[kp,kH];exact kd);conv at hT=>whnf
 conv=>whnf
 exact fV hT (aq.keep)
theorem LC(o:bz)(z:aL)(s:Bs)(c:Int)(f:Int)(d:List Datum)(c2:Int)(f2:Int)(d2:List Datum)(c3:Int)(d3:List Datum)(cut:Bs)(l:List Int)(hz:ZSm z)(hh:∀n∈l,bK o.w n=true)(hl:l.length<=1000)(hd:d.length<=100000)(yK:d2.length<=100000)(xR:d3.length<=100000)(kd:(wfR (dj o.w o.aP cut l (bL (bL (bL z s c f d) s c2 f2 d2) s c3 f d3)) z.af 4).2=true->(wfR (dj o.w o.aP cut l (bL (bL (bL z s c f d) s c2 f2 d2) s c3 f d3)) z.af 4).1.data≠[]) :
 FnP dy pvW 120 [.ptr 100034 0,.agg ((aX z).map .d),.own 87] ((87,.eH 177 1 [[lr s c f d],[lr s c2 f2 d2],[lr s c3 f d3],[mZ l cut]])::gBz o) (ng (gBz o) (de o.since o.aO (dj o.w o.aP cut l (bL (bL (bL z s c f d) s c2 f2 d2) s c3 f d3)))):=by
 refine bt [100004] slF GN tn Tryz.func120 ?_;conv=>whnf
 have hC:=bU (pv' :=pvW) (bR (cx' :=dy) rfl rfl (km z (by have:=hz.1;omega) hz.2));refine⟨[4,6,87,100003,100034,90032,90040,90041],_,hC,⟨rfl,rfl,rfl⟩,?_⟩;conv=>whnf
 refine aM ?_;conv=>whnf
 have kf:=bU (pv' :=pvW) (bR (cx' :=dy) rfl rfl (eV z s c f d (by have:=hz.1;omega) hd));have kj:=gW z s c f d;have kH:(bL z s c f d).af=z.af:=rfl;generalize kM:bL z s c f d=z1 at kf kj kH kd ⊢;have kz:=bU (pv' :=pvW) (bR (cx' :=dy) rfl rfl (eV z1 s c2 f2 d2 (by have:=hz.1;omega) yK));have kx:=gW z1 s c2 f2 d2;have kp:(bL z1 s c2 f2 d2).af=z1.af:=rfl;generalize kT:bL z1 s c2 f2 d2=z2 at kz kx kp kd ⊢;have xn:=bU (pv' :=pvW) (bR (cx' :=dy) rfl rfl (eV z2 s c3 f d3 (by have:=hz.1;omega) xR));have ya:=gW z2 s c3 f d3;have xp:(bL z2 s c3 f d3).af=z2.af:=rfl
 generalize yQ:bL z2 s c3 f d3=z3 at xn ya xp kd ⊢
 have kS:=bU (pv' :=pvW) (bR (cx' :=dy) rfl rfl (rH o cut l z3 hh hl (by have:=hz.1;omega)));have yb:=pg o.w o.aP cut l z3;have xq:(dj o.w o.aP cut l z3).af=z3.af:=iw ..;generalize yR:dj o.w o.aP cut l z3=z4 at kS yb xq kd ⊢;refine⟨Nat,λk=>⟨[(0,.ptr 100034 0),(4,.ptr 100004 0),(6,.ptr 6 0),(15,.own 87),(16,.d (.int .i64 4)),(17,.d (.int .i64 k))],fU (match k with|0=>z|1=>z1|2=>z2|3=>z3|_=>z4)++(6,.box [.d (.str []),.nil 5])::(87,.eH 177 1 [[lr s c f d],[lr s c2 f2 d2],[lr s c3 f d3],[mZ l cut]])::gBz o⟩,
  λk=>k<=4,λk=>4-k,⟨0,Nat.zero_le _,(aq.name 4 100004 rfl rfl).trans (aq.keep)⟩,λk hk=>?_⟩
 rcases k with _|_|_|_|_|k
 case succ.succ.succ.succ.succ=>omega
 .conv=>whnf
  refine⟨by decide,bB rfl,?_⟩;conv=>whnf
  refine⟨_,rfl,?_⟩;conv=>whnf
  refine⟨[6,87,100003,100034,90032,90040,90041],_,kf,⟨by kernel_rfl,by kernel_rfl,by kernel_rfl⟩,?_⟩;conv=>whnf
  refine aM ?_;conv=>whnf
  exact⟨1,by decide,by(show 4-1<4-0;omega),aq.keep⟩
 .conv=>whnf
  refine⟨by decide,bB rfl,?_⟩;conv=>whnf
  refine⟨_,rfl,?_⟩;conv=>whnf
  refine⟨[6,87,100003,100034,90032,90040,90041],_,kz,⟨by kernel_rfl,by kernel_rfl,by kernel_rfl⟩,?_⟩;conv=>whnf
  refine aM ?_;conv=>whnf
  exact⟨2,by decide,by(show 4-2<4-1;omega),aq.keep⟩
 .conv=>whnf
  refine⟨by decide,bB rfl,?_⟩;conv=>whnf
  refine⟨_,rfl,?_⟩;conv=>whnf
  refine⟨[6,87,100003,100034,90032,90040,90041],_,xn,⟨by kernel_rfl,by kernel_rfl,by kernel_rfl⟩,?_⟩;conv=>whnf
  refine aM ?_;conv=>whnf
  exact⟨3,by decide,by(show 4-3<4-2;omega),aq.keep⟩
 .conv=>whnf
  refine⟨by decide,bB rfl,?_⟩;conv=>whnf
  refine⟨_,rfl,?_⟩;conv=>whnf
  refine⟨[6,87],_,kS,⟨by kernel_rfl,by kernel_rfl,by kernel_rfl⟩,?_⟩;conv=>whnf
  refine aM ?_;conv=>whnf
  exact⟨4,by decide,by(show 4-4<4-3;omega),aq.keep⟩
 have hT:=qd o z4 (by have:=hz.1;omega) (by rw[xq,xp,kp,kH];exact kd);conv at hT=>whnf
 conv=>whnf
 exact fV hT (aq.keep)
theorem LD(o:bz)(z:aL)(p:Signed->Bool)(x:bA)(s:Bs)(c:Int)(f:Int)(d:List Datum)(c3:Int)(d3:List Datum)(cut:Bs)(l:List Int)(hz:ZSm z)(hh:∀n∈l,bK o.w n=true)(hl:l.length<=1000)(hd:d.length<=100000)(xR:d3.length<=100000)(hw:∀s,NQ.Fn cx 197 [.agg (aw s),.ptr [.fn 135 [] [.ptr (bj x)]]] (.d (.bool (p s))) [])(kd:(wfR (dj o.w o.aP cut l (bL (bL (sC p z) s c f d) s c3 f d3)) z.af 4).2=true->(wfR (dj o.w o.aP cut l (bL (bL (sC p z) s c f d) s c3 f d3)) z.af 4).1.data≠[]) :
 FnP dy pvW 120 [.ptr 100034 0,.agg ((aX z).map .d),.own 130] ((130,.eH 177 1 [[woA 135 x],[lr s c f d],[lr s c3 f d3],[mZ l cut]])::gBz o) (ng (gBz o) (de o.since o.aO (dj o.w o.aP cut l (bL (bL (sC p z) s c f d) s c3 f d3)))):=by
 refine bt [100004] slF GN tn Tryz.func120 ?_;conv=>whnf
 have hC:=bU (pv' :=pvW) (bR (cx' :=dy) rfl rfl (km z (by have:=hz.1;omega) hz.2));refine⟨[4,6,130,100003,100034,90032,90040,90041],_,hC,⟨rfl,rfl,rfl⟩,?_⟩;conv=>whnf
 refine aM ?_;conv=>whnf
 have kf:=bU (pv' :=pvW) (bR (cx' :=dy) rfl rfl (wX z p 135 x (by have:=hz.1;omega) hw));have kj:=QR p z;have kH:(sC p z).af=z.af:=rfl
 change FnP _ _ _ _ _ (some (_,fU (sC p z)))at kf
 generalize kM:sC p z=z1 at kf kj kH kd ⊢
 have kz:=bU (pv' :=pvW) (bR (cx' :=dy) rfl rfl (eV z1 s c f d (by have:=hz.1;omega) hd));have kx:=gW z1 s c f d;have kp:(bL z1 s c f d).af=z1.af:=rfl;generalize kT:bL z1 s c f d=z2 at kz kx kp kd ⊢;have xn:=bU (pv' :=pvW) (bR (cx' :=dy) rfl rfl (eV z2 s c3 f d3 (by have:=hz.1;omega) xR));have ya:=gW z2 s c3 f d3;have xp:(bL z2 s c3 f d3).af=z2.af:=rfl;generalize yQ:bL z2 s c3 f d3=z3 at xn ya xp kd ⊢;have kS:=bU (pv' :=pvW) (bR (cx' :=dy) rfl rfl (rH o cut l z3 hh hl (by have:=hz.1;omega)));have yb:=pg o.w o.aP cut l z3;have xq:(dj o.w o.aP cut l z3).af=z3.af:=iw ..
 generalize yR:dj o.w o.aP cut l z3=z4 at kS yb xq kd ⊢
 refine⟨Nat,λk=>⟨[(0,.ptr 100034 0),(4,.ptr 100004 0),(6,.ptr 6 0),(15,.own 130),(16,.d (.int .i64 4)),(17,.d (.int .i64 k))],fU (match k with|0=>z|1=>z1|2=>z2|3=>z3|_=>z4)++(6,.box [.d (.str []),.nil 5])::(130,.eH 177 1 [[woA 135 x],[lr s c f d],[lr s c3 f d3],[mZ l cut]])::gBz o⟩,
  λk=>k<=4,λk=>4-k,⟨0,Nat.zero_le _,(aq.name 4 100004 rfl rfl).trans (aq.keep)⟩,λk hk=>?_⟩
 rcases k with _|_|_|_|_|k
 case succ.succ.succ.succ.succ=>omega
 .conv=>whnf
  refine⟨by decide,bB rfl,?_⟩;conv=>whnf
  refine⟨_,rfl,?_⟩;conv=>whnf
  refine⟨[6,130,100003,100034,90032,90040,90041],_,kf,⟨by kernel_rfl,by kernel_rfl,by kernel_rfl⟩,?_⟩;conv=>whnf
  refine aM ?_;conv=>whnf
  exact⟨1,by decide,by(show 4-1<4-0;omega),aq.keep⟩
 .conv=>whnf
  refine⟨by decide,bB rfl,?_⟩;conv=>whnf
  refine⟨_,rfl,?_⟩;conv=>whnf
  refine⟨[6,130,100003,100034,90032,90040,90041],_,kz,⟨by kernel_rfl,by kernel_rfl,by kernel_rfl⟩,?_⟩;conv=>whnf
  refine aM ?_;conv=>whnf
  exact⟨2,by decide,by(show 4-2<4-1;omega),aq.keep⟩
 .conv=>whnf
  refine⟨by decide,bB rfl,?_⟩;conv=>whnf
  refine⟨_,rfl,?_⟩;conv=>whnf
  refine⟨[6,130,100003,100034,90032,90040,90041],_,xn,⟨by kernel_rfl,by kernel_rfl,by kernel_rfl⟩,?_⟩;conv=>whnf
  refine aM ?_;conv=>whnf
  exact⟨3,by decide,by(show 4-3<4-2;omega),aq.keep⟩
 .conv=>whnf
  refine⟨by decide,bB rfl,?_⟩;conv=>whnf
  refine⟨_,rfl,?_⟩;conv=>whnf
  refine⟨[6,130],_,kS,⟨by kernel_rfl,by kernel_rfl,by kernel_rfl⟩,?_⟩;conv=>whnf
  refine aM ?_;conv=>whnf
  exact⟨4,by decide,by(show 4-4<4-3;omega),aq.keep⟩
 have hT:=qd o z4 (by have:=hz.1;omega) (by rw[xq,xp,kp,kH];exact kd);conv at hT=>whnf
 conv=>whnf
 exact fV hT (aq.keep)
def eJ(o:bz):bz:={o with got:=dF o.w o.got o.aF,bq:=o.bq++(if o.aF=[]then[]else[o.aF]),aF:=[]}
theorem Af(o:bz):iI o=eJ o:=by
 unfold iI eJ;cases o with|mk w s t z l g p st =>
 dsimp only;by_cases h:p=[]
 .subst h;rw[if_pos rfl,if_pos rfl,List.append_nil];rfl
 .rw[if_neg h,if_neg h]
theorem dA{z:aL}(h:bf z=true):ZSm z:=by
 have ho:=bO h;exact⟨by have:=ho.few;omega,λs hs=>by have:=rn h s hs;omega⟩
theorem iE{since aO:Int}{y z:aL}(h:de since aO y=some z):bf z=true:=by
 unfold de at h;split at h
 .split at h
  .cases h
  .unfold lY at h;split at h
   .split at h
    .cases h
    .split at h
     .cases h
     .split at h
      .cases h
      .rename_i hc;cases h;simp only[Bool.or_eq_true,not_or,Bool.not_eq_true,Bool.not_eq_false']at hc;exact hc.2
   .cases h
 .cases h
def mh(z:aL):Prop:= ∀s∈z.aj,s.set.data≠[]
theorem jr{z:aL}{s:Bs}{k:Int}(h:mh z)(hf:(wfR z s k).2=true):(wfR z s k).1.data≠[]:=by
 unfold wfR at hf ⊢;unfold mn at hf ⊢;cases hc:z.aj.find? (isF s k)with
 |none=>rw[hc]at hf;cases hf
 |some x=>exact h x (List.mem_of_find?_eq_some hc)
theorem hU{z:aL}{s:Bs}{k aP:Int}{data:List Datum}(h:mh z)(hd:data≠[]):mh (bL z s k aP data):=by
 intro x hx;have hb:(eN z s k aP data).set.data≠[]:=hd;unfold bL at hx;dsimp only at hx;split at hx
 .rcases List.mem_or_eq_of_mem_set hx with hx|rfl
  .exact h x hx
  .exact hb
 .rcases List.mem_append.1 hx with hx|hx
  .rcases List.mem_append.1 hx with hx|hx
   .exact h x (List.mem_of_mem_take hx)
   .rcases List.mem_singleton.1 hx with rfl;exact hb
  .exact h x (List.mem_of_mem_drop hx)
theorem pf(w:aZ)(aP:Int)(cut:Bs):∀(l:List Int) {z:aL},mh z->mh (dj w aP cut l z)
 |[],z,h=>h
 |n::t,z,h=>by
  show mh (dj w aP cut t (nM w aP cut z n))
  refine pf w aP cut t ?_;unfold nM;split
  .exact hU h (by simp)
  .exact h
theorem Qa(p:Signed->Bool){z:aL}(h:mh z):mh (sC p z):=λx hx=>h x (List.mem_filter.1 hx).1
theorem mq{z:aL}(h:bf z=true):mh z:=λs hs=>by
 obtain⟨d,hd⟩:=wF ((bO h).set s hs);intro e;rw[e]at hd;cases hd
theorem vW{w:aZ}{g:List (Bs×List Int)}:∀(l:List ao),(∀p∈l,jO w g p=false)->dF w g l=g
 |[],_=>rfl
 |p::t,h=>by
  show dF w (kv w g p) t=g
  have:kv w g p=g:=by unfold kv;rw[if_neg (by rw[h p (List.mem_cons_self ..)];decide)]
  rw[this];exact vW t λq hq=>h q (bC _ hq)
theorem tN{o:bz}{z:aL}:∀p∈bT z o.w.ai++dN z (bW o.got z.af),jO o.w o.got p=false:=by
 intro p hp;rcases List.mem_append.1 hp with hp|hp
 .unfold bT at hp;obtain⟨q,hq,rfl⟩:=List.mem_map.1 hp;obtain⟨yY,za⟩:=List.mem_filter.1 hq;have:o.w.ai.any (fc q.host z.af)=true:=List.any_eq_true.2 ⟨q,yY,by unfold fc;simp;simpa using za⟩;unfold jO;simp[this]
 .unfold dN at hp;obtain⟨n,hn,rfl⟩:=List.mem_map.1 hp;unfold jO;have:(bW o.got z.af).contains n=true:=mg.2 hn;dsimp only;rw[this];simp
theorem Eo{w:aZ}{g:List (Bs×List Int)}{n:Int}{a:Bs}:jO w g ⟨n,⟨a,[]⟩⟩=false:=rfl
theorem lg(o:bz)(hn:o.w.ai.length<=1000)(hp:o.aF.length<=100000)(hs:o.bq.length<=1000)(kg:∀a,(bW o.got a).length<=1000)(hz:∀p∈o.aF,p.ah.aj.length<=100000)(h:∀p∈o.aF,jO o.w o.got p=false) :
 FnP uc pvW 115 [.ptr 100034 0] (bH o) (some (.tuple [],bH {o with bq:=o.bq++(if o.aF=[]then[]else[o.aF]),aF:=[]})):=by
 have e:iI o={o with bq:=o.bq++(if o.aF=[]then[]else[o.aF]),aF:=[]}:=by
  rw[Af];unfold eJ;rw[vW o.aF h]
 rw[<- e];have hk:∀k,dF o.w o.got (o.aF.take k)=o.got:=λk=>vW _ λp hp=>h p (List.mem_of_mem_take hp)
 refine Ah o hn hp hs (λk p yA=>?_) hz λk p yA ha=>?_
 .rw[hk];have:=kg p.ah.af;omega
 .rw[hk,h p (aC yA)]at ha;cases ha
def cy(o:bz):bz:={o with bq:=o.bq++(if o.aF=[]then[]else[o.aF]),aF:=[]}
def keyOf(x:bA):List Datum:=[⟨[],x.key.n,x.key.alg⟩]
def DO(z:aL)(x:bA):List Datum:=dE (gS fW (⟨[],x.key.n,x.key.alg⟩::(wfR z x.ah 7).1.data))
def tj(o:bz)(x:bA)(z:aL):Option bz:=match de o.since o.aO (bL z x.ah 7 o.aP (keyOf x))with
 |none=>none
 |some z3=>some (cy (aS o z3))
def nP(o:bz)(x:bA)(z ab:aL):Option bz:=if (wfR ab x.ah 6).2=true then(match de o.since o.aO (bL ab x.ah 6 o.aP (keyOf x))with
 |none=>none
 |some z2=>tj (cy (aS o z2)) x z)else none
def wj(o:bz)(x:bA)(ab:aL):Option bz:=if (wfR o.ah x.ah 7).2=true then(match de o.since o.aO (bL o.ah x.ah 7 o.aP (DO o.ah x))with
 |none=>none
 |some z=>nP (cy (aS o z)) x z ab)else none
def mS(o:bz)(x:bA):Option bz:=if (cH o.w.ai x.ah).2=true then wj o x (cH o.w.ai x.ah).1 else none
def iZ:Option bz->Option (AV×List (Nat×Blk))
 |some o=>some (.tuple [],bH o)
 |none=>none
theorem lift{cx cx' :Cx}{pv:Int->Value}{f:FuncId}{args:List AV}{h:List (Nat×Blk)}{out:Option (AV×List (Nat×Blk))}(hf:FnP cx pv f args h out)(h1:cx'.P=cx.P)(h2:cx'.gl=cx.gl):FnP cx' pv f args h out:=bR h1 h2 hf
theorem oP{o:bz}{n:Nat}(h:o.bq.length<=n):(cy o).bq.length<=n+1:=by
 show(o.bq++_).length<=_
 rw[List.length_append];split <;> simp <;> omega
theorem Co(z:aL)(l:List ao):(bT z l).length<=l.length:=by
 unfold bT;rw[aA];exact List.length_filter_le ..
theorem vQ(o:bz)(z:aL)(hn:o.w.ai.length<=1000)(hp:o.aF=[])(hs:o.bq.length<=1000)(hg:o.got=[])(hz:ZSm z) :
 FnP uc pvW 115 [.ptr 100034 0] (bH (aS o z)) (some (.tuple [],bH (cy (aS o z)))):=by
 have kb:∀a,bW o.got a=[]:=λa=>by rw[hg];rfl
 have xA:(aS o z).aF=bT z o.w.ai++dN z (bW o.got z.af):=by
  show o.aF++_++_=_
  rw[hp];rfl
 have hl:=Co z o.w.ai;refine lg (aS o z) hn ?_ hs (λa=>by show(bW o.got a).length<=_;rw[kb];simp) (λp xz =>?_) λp xz =>?_
 .rw[xA,kb];simp[dN];omega
 .rw[xA]at xz;have:p.ah=z:=by
   rcases List.mem_append.1 xz with h|h
   .unfold bT at h;obtain⟨q,_,rfl⟩:=List.mem_map.1 h;rfl
   .unfold dN at h;obtain⟨q,_,rfl⟩:=List.mem_map.1 h;rfl
  rw[this];have:=hz.1;omega
 .rw[xA]at xz;exact tN p xz
attribute [local irreducible] NQ.FnP
noncomputable def gY:Cx:={cx with chg:=gX [(112,10),(111,9),(123,9),(63,11),(124,2),(126,1),(116,9),(120,9),(119,9),(115,9)],bld:=[52,77,95]}
theorem Vt:bD gY:=bp
theorem Tf:gY.P.follows .mixedOrders=true:=mixed
def Uh:Nat->List Nat:=fun|1=>[33333]|2=>[55555]|3=>[33333]|4=>[33333,55555]|5=>[33333,55555]|8=>[33333,55555]|9=>[33333,55555]|10=>[33333]|11=>[33333,55555]|12=>[33333,55555]|13=>[33333]|14=>[33333,55555]|15=>[33333]|_=>[]
noncomputable abbrev Uj:Code:=(Tryz.f65).body.getD .skip
noncomputable abbrev Vi:List ResultVar:=(Tryz.f65).results.toList
theorem Nz(o:bz)(x:bA)(z ab:aL)(hn:o.w.ai.length<=1000)(hp:o.aF=[])(hs:o.bq.length<=100)(hg:o.got=[])(hz:bf z=true)(hY:bf ab=true) :
 vcp gY [] pvW 100 Uh (λ_=>iZ (nP (cy (aS o z)) x z ab)=none) ((gL 9 Uj).getD .skip) (nK gY [] Vi (iZ (nP (cy (aS o z)) x z ab)))
  ⟨[(0,.ptr 100034 0),(3,.ptr 3 0),(4,.ptr 4 0),(8,.ptr 8 0)],(3,.box ((bj x).map .d))::(4,.box ((aX ab).map .d))::(8,.box ((aX z).map .d))::bH o⟩:=by
 conv=>whnf
 refine⟨_,aq.refl _,?_⟩;conv=>whnf
 obtain⟨r,hr⟩:∃r,r=nP (cy (aS o z)) x z ab:=⟨_,rfl⟩
 rw[<- hr];have kb:∀a,bW o.got a=[]:=λa=>by rw[hg];rfl
 have kB:=lift (cx' :=gY) (kI o z (dA hz) hn (by rw[hp];simp) (by rw[kb];simp)) rfl rfl;refine⟨[3,4,8],_,kB,⟨rfl,rfl,rfl⟩,?_⟩;conv=>whnf
 refine aM ?_;conv=>whnf
 have kn:=lift (cx' :=gY) (vQ o z hn hp (by omega) hg (dA hz)) rfl rfl;refine⟨[3,4,8],_,kn,⟨rfl,rfl,rfl⟩,?_⟩;conv=>whnf
 refine aM ?_;conv=>whnf
 have xK:(cy (aS o z)).bq.length<=101:=oP (o:=aS o z) hs;have kL:(cy (aS o z)).w=o.w:=rfl;have kM:(cy (aS o z)).got=[]:=hg;have xl:(cy (aS o z)).aF=[]:=rfl;generalize cy (aS o z)=o1 at hr xK kL kM xl ⊢;refine⟨_,aq.keep (sl:=[(0,.ptr 100034 0),(3,.ptr 3 0),(4,.ptr 4 0),(8,.ptr 8 0)]) (h:=(3,.box ((bj x).map .d))::(4,.box ((aX ab).map .d))::(8,.box ((aX z).map .d))::bH o1),?_⟩;conv=>whnf
 clear kB kn;have hN:=uy ab x.ah 6 (by have:=(dA hY).1;omega);unfold nP at hr;generalize wfR ab x.ah 6=s6 at hN hr;obtain⟨s6,b6⟩:=s6;dsimp only at hN hr;cases b6 with
 |false =>
  rw[if_neg (by decide)]at hN hr;subst hr;have hN:=lift (cx' :=gY) hN rfl rfl;exact⟨[3,4,8,100034,90032,90040,90041],_,hN,⟨rfl,rfl,rfl⟩,rfl⟩
 |true =>
 rw[if_pos rfl]at hN hr;have hN:=lift (cx' :=gY) hN rfl rfl;refine⟨[3,4,8,100034,90032,90040,90041],_,hN,⟨rfl,rfl,rfl⟩,?_⟩;conv=>whnf
 refine aM ?_;conv=>whnf
 refine⟨_,aq.keep (sl:=[(0,.ptr 100034 0),(3,.ptr 3 0),(4,.ptr 4 0),(8,.ptr 8 0)]) (h:=(3,.box ((bj x).map .d))::(4,.box ((aX ab).map .d))::(8,.box ((aX z).map .d))::bH o1),?_⟩;conv=>whnf
 clear hN;have hK:=bU (pv' :=pvW) (lift (cx' :=gY) (oQ x.key) rfl rfl);have hB:=bU (pv' :=pvW) (lift (cx' :=gY) (eI x.ah 6 o1.aP (keyOf x)) rfl rfl);have hS:=lift (cx' :=gY) (rW o1 ab x.ah 6 o1.aP (keyOf x) hY (by simp[keyOf]) (λh=>jr (hU (mq hY) (by simp[keyOf])) h)) rfl rfl;cases hq:de o1.since o1.aO (bL ab x.ah 6 o1.aP (keyOf x))with
 |none =>
  rw[hq]at hS hr;subst hr
  (refine cu ?_;conv=>whnf)
  refine⟨[3,4,8,100034,90032,90040,90041],_,hK,⟨rfl,rfl,rfl⟩,?_⟩;conv=>whnf
  refine aM ?_
  (conv=>arg 2;arg 1;reduce);(conv=>arg 2;arg 2;tactic=>(refine Eq.trans (b:=(3,.box ((bj x).map .d))::(4,.box ((aX ab).map .d))::(8,.box ((aX z).map .d))::bH o1) ?_ rfl;kernel_rfl))
  conv=>whnf
  repeat (refine cP ?_;conv=>whnf)
  refine⟨[3,4,8,100034,90032,90040,90041],_,hB,⟨rfl,rfl,rfl⟩,?_⟩;conv=>whnf
  refine aM ?_
  (conv=>arg 2;arg 1;reduce);(conv=>arg 2;arg 2;tactic=>(refine Eq.trans (b:=(3,.box ((bj x).map .d))::(4,.box ((aX ab).map .d))::(8,.box ((aX z).map .d))::bH o1) ?_ rfl;kernel_rfl))
  conv=>whnf
  repeat (refine cP ?_;conv=>whnf)
  exact⟨[3,4,8],_,hS,⟨rfl,rfl,rfl⟩,rfl⟩
 |some z2 =>
 rw[hq]at hS hr;have xL:=iE hq;have kB:=lift (cx' :=gY) (kI o1 z2 (dA xL) (by rw[kL];exact hn) (by rw[xl];simp) (by rw[kM];simp[bW,bG])) rfl rfl
 (refine cu ?_;conv=>whnf)
 refine⟨[3,4,8,100034,90032,90040,90041],_,hK,⟨rfl,rfl,rfl⟩,?_⟩;conv=>whnf
 refine aM ?_
 (conv=>arg 2;arg 1;reduce);(conv=>arg 2;arg 2;tactic=>(refine Eq.trans (b:=(3,.box ((bj x).map .d))::(4,.box ((aX ab).map .d))::(8,.box ((aX z).map .d))::bH o1) ?_ rfl;kernel_rfl))
 conv=>whnf
 repeat (refine cP ?_;conv=>whnf)
 refine⟨[3,4,8,100034,90032,90040,90041],_,hB,⟨rfl,rfl,rfl⟩,?_⟩;conv=>whnf
 refine aM ?_
 (conv=>arg 2;arg 1;reduce);(conv=>arg 2;arg 2;tactic=>(refine Eq.trans (b:=(3,.box ((bj x).map .d))::(4,.box ((aX ab).map .d))::(8,.box ((aX z).map .d))::bH o1) ?_ rfl;kernel_rfl))
 conv=>whnf
 repeat (refine cP ?_;conv=>whnf)
 refine⟨[3,4,8],_,hS,⟨rfl,rfl,rfl⟩,?_⟩;conv=>whnf
 refine aM ?_
 (conv=>arg 2;arg 1;reduce);(conv=>arg 2;arg 2;tactic=>(refine Eq.trans (b:=(3,.box ((bj x).map .d))::(4,.box ((aX ab).map .d))::(8,.box ((aX z).map .d))::bH o1) ?_ rfl;kernel_rfl))
 conv=>whnf
 repeat (refine cP ?_;conv=>whnf)
 refine⟨[3,4,8],_,kB,⟨rfl,rfl,rfl⟩,?_⟩;conv=>whnf
 refine aM ?_
 (conv=>arg 2;arg 1;reduce);(conv=>arg 2;arg 2;tactic=>(refine Eq.trans (b:=(3,.box ((bj x).map .d))::(4,.box ((aX ab).map .d))::(8,.box ((aX z).map .d))::bH (aS o1 z2)) ?_ rfl;kernel_rfl))
 conv=>whnf
 have kn:=lift (cx' :=gY) (vQ o1 z2 (by rw[kL];exact hn) xl (by omega) kM (dA xL)) rfl rfl;refine⟨[3,4,8],_,kn,⟨rfl,rfl,rfl⟩,?_⟩;conv=>whnf
 refine aM ?_;conv=>whnf
 replace hr:r=tj (cy (aS o1 z2)) x z:=hr;have zd:(cy (aS o1 z2)).bq.length<=102:=oP (o:=aS o1 z2) xK;have yi:(cy (aS o1 z2)).w=o.w:=kL;have kT:(cy (aS o1 z2)).got=[]:=kM;have ye:(cy (aS o1 z2)).aF=[]:=rfl;generalize cy (aS o1 z2)=o2 at hr zd yi kT ye ⊢;refine⟨_,aq.keep (sl:=[(0,.ptr 100034 0),(3,.ptr 3 0),(4,.ptr 4 0),(8,.ptr 8 0)]) (h:=(3,.box ((bj x).map .d))::(4,.box ((aX ab).map .d))::(8,.box ((aX z).map .d))::bH o2),?_⟩;conv=>whnf
 clear kB kn hB hS hq;have hB:=bU (pv' :=pvW) (lift (cx' :=gY) (eI x.ah 7 o2.aP (keyOf x)) rfl rfl);have hS:=lift (cx' :=gY) (rW o2 z x.ah 7 o2.aP (keyOf x) hz (by simp[keyOf]) (λh=>jr (hU (mq hz) (by simp[keyOf])) h)) rfl rfl;unfold tj at hr;cases hq:de o2.since o2.aO (bL z x.ah 7 o2.aP (keyOf x))with
 |none =>
  rw[hq]at hS hr;subst hr
  (refine cu ?_;conv=>whnf)
  refine⟨[3,4,8,100034,90032,90040,90041],_,hK,⟨rfl,rfl,rfl⟩,?_⟩;conv=>whnf
  refine aM ?_
  (conv=>arg 2;arg 1;reduce);(conv=>arg 2;arg 2;tactic=>(refine Eq.trans (b:=(3,.box ((bj x).map .d))::(4,.box ((aX ab).map .d))::(8,.box ((aX z).map .d))::bH o2) ?_ rfl;kernel_rfl))
  conv=>whnf
  repeat (refine cP ?_;conv=>whnf)
  refine⟨[3,4,8,100034,90032,90040,90041],_,hB,⟨rfl,rfl,rfl⟩,?_⟩;conv=>whnf
  refine aM ?_
  (conv=>arg 2;arg 1;reduce);(conv=>arg 2;arg 2;tactic=>(refine Eq.trans (b:=(3,.box ((bj x).map .d))::(4,.box ((aX ab).map .d))::(8,.box ((aX z).map .d))::bH o2) ?_ rfl;kernel_rfl))
  conv=>whnf
  repeat (refine cP ?_;conv=>whnf)
  exact⟨[3,4,8],_,hS,⟨rfl,rfl,rfl⟩,rfl⟩
 |some z3 =>
 rw[hq]at hS hr;have xF:=iE hq;have kB:=lift (cx' :=gY) (kI o2 z3 (dA xF) (by rw[yi];exact hn) (by rw[ye];simp) (by rw[kT];simp[bW,bG])) rfl rfl;have kn:=lift (cx' :=gY) (vQ o2 z3 (by rw[yi];exact hn) ye (by omega) kT (dA xF)) rfl rfl
 (refine cu ?_;conv=>whnf)
 refine⟨[3,4,8,100034,90032,90040,90041],_,hK,⟨rfl,rfl,rfl⟩,?_⟩;conv=>whnf
 refine aM ?_
 (conv=>arg 2;arg 1;reduce);(conv=>arg 2;arg 2;tactic=>(refine Eq.trans (b:=(3,.box ((bj x).map .d))::(4,.box ((aX ab).map .d))::(8,.box ((aX z).map .d))::bH o2) ?_ rfl;kernel_rfl))
 conv=>whnf
 repeat (refine cP ?_;conv=>whnf)
 refine⟨[3,4,8,100034,90032,90040,90041],_,hB,⟨rfl,rfl,rfl⟩,?_⟩;conv=>whnf
 refine aM ?_
 (conv=>arg 2;arg 1;reduce);(conv=>arg 2;arg 2;tactic=>(refine Eq.trans (b:=(3,.box ((bj x).map .d))::(4,.box ((aX ab).map .d))::(8,.box ((aX z).map .d))::bH o2) ?_ rfl;kernel_rfl))
 conv=>whnf
 repeat (refine cP ?_;conv=>whnf)
 refine⟨[3,4,8],_,hS,⟨rfl,rfl,rfl⟩,?_⟩;conv=>whnf
 refine aM ?_
 (conv=>arg 2;arg 1;reduce);(conv=>arg 2;arg 2;tactic=>(refine Eq.trans (b:=(3,.box ((bj x).map .d))::(4,.box ((aX ab).map .d))::(8,.box ((aX z).map .d))::bH o2) ?_ rfl;kernel_rfl))
 conv=>whnf
 repeat (refine cP ?_;conv=>whnf)
 refine⟨[3,4,8],_,kB,⟨rfl,rfl,rfl⟩,?_⟩;conv=>whnf
 refine aM ?_
 (conv=>arg 2;arg 1;reduce);(conv=>arg 2;arg 2;tactic=>(refine Eq.trans (b:=(3,.box ((bj x).map .d))::(4,.box ((aX ab).map .d))::(8,.box ((aX z).map .d))::bH (aS o2 z3)) ?_ rfl;kernel_rfl))
 conv=>whnf
 refine⟨[3,4,8],_,kn,⟨rfl,rfl,rfl⟩,?_⟩;conv=>whnf
 refine aM ?_
 (conv=>arg 2;arg 1;reduce);(conv=>arg 2;arg 2;tactic=>(refine Eq.trans (b:=(3,.box ((bj x).map .d))::(4,.box ((aX ab).map .d))::(8,.box ((aX z).map .d))::bH (cy (aS o2 z3))) ?_ rfl;kernel_rfl))
 conv=>whnf
 replace hr:r=some (cy (aS o2 z3)):=hr;subst hr;exact .inl ⟨[],aq.keep trivial,rfl⟩
theorem xZ:∀l:List Datum,(dE l).length<=l.length
 |[]=>Nat.le_refl _
 |[a]=>Nat.le_refl _
 |a::b::t=>by
  have:=xZ (b::t);show(if a=b then dE (b::t)else a::dE (b::t)).length<=_
  split <;> simp at this ⊢ <;> omega
theorem zX:∀l:List Datum,l≠[]->dE l≠[]
 |[],h=>absurd rfl h
 |[a],_=>by simp[dE]
 |a::b::t,_=>by
  have:=zX (b::t) (by simp);show(if a=b then dE (b::t)else a::dE (b::t))≠[]
  split
  .exact this
  .simp
theorem xS{zs:List ao}{a:Bs}(hv:∀p∈zs,bf p.ah=true)(h:(cH zs a).2=true):bf (cH zs a).1=true:=by
 unfold cH at h ⊢;split at h
 .rename_i h1;rw[if_pos h1];split at h
  .rename_i h2;rw[if_pos h2];rcases eX zs (dQ a zs).1 with ⟨p,hp,hc,_⟩|⟨hc,_⟩
   .rw[hc];exact hv p hp
   .rw[hc]at h2;cases h2
  .cases h
 .cases h
theorem sn{z:aL}{s:Bs}{k:Int}(hz:bf z=true)(h:(wfR z s k).2=true):(wfR z s k).1.data.length<=1000:=by
 unfold wfR mn at h ⊢;cases hc:z.aj.find? (isF s k)with
 |none=>rw[hc]at h;cases h
 |some x =>
  have:=(rn hz x (List.mem_of_find?_eq_some hc)).1;show x.set.data.length<=1000
  omega
theorem wK(l:List Datum):(gS fW l).length=l.length:=(nX (xX.ok _)).length_eq
theorem Qs(o:bz)(x:bA)(hv:∀p∈o.w.ai,bf p.ah=true)(hn:o.w.ai.length<=1000)(hz:bf o.ah=true)(yd:o.aF=[])(yE:o.bq.length<=100)(kK:o.got=[]):FnP gY pvW 65 [.ptr 100034 0,.agg ((bj x).map .d)] (bH o) (iZ (mS o x)):=by
 refine bt [] Uh Vt Tf Tryz.func65 ?_;conv=>whnf
 obtain⟨r,hr⟩:∃r,r=mS o x:=⟨_,rfl⟩
 rw[<- hr];unfold mS at hr;have hA:=bU (pv' :=pvW) (lift (cx' :=gY) (rq o.w x.ah hv (by omega)) rfl rfl);have xa:=xS (a:=x.ah) hv;generalize cH o.w.ai x.ah=ab at hA hr xa;obtain⟨ab,b⟩:=ab;dsimp only at hA hr xa;apply sX (α:=Unit) (P:=λ_=>True) (canon:=λ_=>⟨[(0,.ptr 100034 0),(3,.ptr 3 0),(4,.ptr 4 0),(5,.d (.bool b))],(3,.box ((bj x).map .d))::(4,.box ((aX ab).map .d))::bH o⟩)
 .intro rest
  (refine cu ?_;conv=>whnf)
  repeat' (first
   |(refine cP ?_;conv=>whnf)
   |(refine⟨[3,100034,90032,90040,90041],_,hA,⟨rfl,rfl,rfl⟩,?_⟩;(conv=>whnf);refine aM ?_;(conv=>whnf))
   |(refine⟨[3,4,100034,90032,90040,90041],_,hA,⟨rfl,rfl,rfl⟩,?_⟩;(conv=>whnf);refine aM ?_;(conv=>whnf))
   |(refine And.intro ?_ ?_ <;> (conv=>whnf)))
  all_goals exact nn (aq.keep) (rest () trivial)
 rintro _ _;unfold App;conv=>whnf
 cases b with
 |false =>
  rw[if_neg (by decide)]at hr;subst hr;conv=>whnf
  have hF:=lift (cx' :=gY) (ku 4 (by decide)) rfl rfl;exact⟨[3,4,100034,90032,90040,90041],_,hF,⟨rfl,rfl,rfl⟩,rfl⟩
 |true =>
 rw[if_pos rfl]at hr;conv=>whnf
 refine⟨_,aq.keep (sl:=[(0,.ptr 100034 0),(3,.ptr 3 0),(4,.ptr 4 0)]) (h:=(3,.box ((bj x).map .d))::(4,.box ((aX ab).map .d))::bH o),?_⟩;conv=>whnf
 have hK:=bU (pv' :=pvW) (lift (cx' :=gY) (yk x.key) rfl rfl);refine⟨[3,4,100034,90032,90040,90041],_,hK,⟨rfl,rfl,rfl⟩,?_⟩;conv=>whnf
 refine aM ?_;conv=>whnf
 refine⟨_,aq.keep (sl:=[(0,.ptr 100034 0),(3,.ptr 3 0),(4,.ptr 4 0),(6,.own 90050)]) (h:=(3,.box ((bj x).map .d))::(4,.box ((aX ab).map .d))::(90050,.row 70 3 [aQ ⟨[],x.key.n,x.key.alg⟩])::bH o),?_⟩;conv=>whnf
 have ym:=sn (s:=x.ah) (k:=7) hz;have hN:=uy o.ah x.ah 7 (by have:=(dA hz).1;omega);unfold wj DO at hr;generalize wfR o.ah x.ah 7=s7 at hN hr ym;obtain⟨s7,b7⟩:=s7;dsimp only at hN hr ym;cases b7 with
 |false =>
  rw[if_neg (by decide)]at hN hr;subst hr;have hN:=lift (cx' :=gY) hN rfl rfl
  (refine cu ?_;conv=>whnf)
  exact⟨[3,4,90050,100034,90032,90040,90041],_,hN,⟨rfl,rfl,rfl⟩,rfl⟩
 |true =>
 rw[if_pos rfl]at hN hr;have hN:=lift (cx' :=gY) hN rfl rfl;have zf:=ym rfl
 (refine cu ?_;conv=>whnf)
 refine⟨[3,4,90050,100034,90032,90040,90041],_,hN,⟨rfl,rfl,rfl⟩,?_⟩;conv=>whnf
 refine aM ?_;conv=>whnf
 repeat (refine cP ?_;conv=>whnf)
 refine⟨by simp;omega,by simp;omega,?_⟩;conv=>whnf
 repeat (refine cP ?_;conv=>whnf)
 refine⟨_,Dg (⟨[],x.key.n,x.key.alg⟩::s7.data) (by simp;omega) _,?_⟩;conv=>whnf
 have ko:(gS fW (⟨[],x.key.n,x.key.alg⟩::s7.data)).length<=100000:=by rw[wK];simp;omega
 have kl:gS fW (⟨[],x.key.n,x.key.alg⟩::s7.data)≠[]:=λe=>by have:=wK (⟨[],x.key.n,x.key.alg⟩::s7.data);rw[e]at this;simp at this
 generalize gS fW (⟨[],x.key.n,x.key.alg⟩::s7.data)=so at ko kl hr ⊢
 refine⟨_,ET so ko _,?_⟩;conv=>whnf
 have yt:(dE so).length<=100000:=Nat.le_trans (xZ so) ko;have xr:=zX so kl;generalize dE so=both at yt xr hr ⊢;refine⟨_,aq.trans (aq.ss [90050]) (aq.keep (sl:=[(0,.ptr 100034 0),(3,.ptr 3 0),(4,.ptr 4 0),(7,.d (.slice 3 (both.map aQ)))]) (h:=(3,.box ((bj x).map .d))::(4,.box ((aX ab).map .d))::bH o)),?_⟩;conv=>whnf
 clear hA hK hN;have hB:=bU (pv' :=pvW) (lift (cx' :=gY) (eI x.ah 7 o.aP both) rfl rfl);have hS:=lift (cx' :=gY) (rW o o.ah x.ah 7 o.aP both hz yt (λh=>jr (hU (mq hz) xr) h)) rfl rfl;cases hq:de o.since o.aO (bL o.ah x.ah 7 o.aP both)with
 |none =>
  rw[hq]at hS hr;subst hr
  (refine cu ?_;conv=>whnf)
  repeat' (first
   |(refine cP ?_;conv=>whnf)
   |(refine⟨[3,4,100034,90032,90040,90041],_,hB,⟨rfl,rfl,rfl⟩,?_⟩;(conv=>whnf);refine aM ?_;(conv=>arg 2;arg 1;reduce);(conv=>whnf))
   |(refine⟨[3,4,8,100034,90032,90040,90041],_,hB,⟨rfl,rfl,rfl⟩,?_⟩;(conv=>whnf);refine aM ?_;(conv=>arg 2;arg 1;reduce);(conv=>whnf))
   |exact⟨[3,4],_,hS,⟨rfl,rfl,rfl⟩,rfl⟩
   |exact⟨[3,4,8],_,hS,⟨rfl,rfl,rfl⟩,rfl⟩
   |(refine And.intro ?_ ?_ <;> (conv=>whnf)))
 |some z =>
 rw[hq]at hS hr;have xL:=iE hq;have hT:=Nz o x z ab hn yd yE kK xL (xa rfl);conv at hT=>whnf
 replace hr:r=nP (cy (aS o z)) x z ab:=hr;rw[<- hr]at hT
 . (refine cu ?_;conv=>whnf)
   repeat' (first
    |(refine cP ?_;conv=>whnf)
    |(refine⟨[3,4,100034,90032,90040,90041],_,hB,⟨rfl,rfl,rfl⟩,?_⟩;(conv=>whnf);refine aM ?_;(conv=>arg 2;arg 1;reduce);(conv=>whnf))
    |(refine⟨[3,4,8,100034,90032,90040,90041],_,hB,⟨rfl,rfl,rfl⟩,?_⟩;(conv=>whnf);refine aM ?_;(conv=>arg 2;arg 1;reduce);(conv=>whnf))
    |(refine⟨[3,4],_,hS,⟨rfl,rfl,rfl⟩,?_⟩;(conv=>whnf);refine aM ?_;(conv=>arg 2;arg 1;reduce);(conv=>whnf))
    |(refine⟨[3,4,8],_,hS,⟨rfl,rfl,rfl⟩,?_⟩;(conv=>whnf);refine aM ?_;(conv=>arg 2;arg 1;reduce);(conv=>whnf))
    |(refine And.intro ?_ ?_ <;> (conv=>whnf)))
   all_goals exact fV hT (aq.keep)
def gT(x:bA)(l:List ao):List ao:=(l.filter λp=>(p.ah.af==x.ah)&& !x.ay.contains p.host).map λp=>⟨p.host,⟨x.ah,[]⟩⟩
theorem GF(x:bA)(l:List ao):(gT x l).length<=l.length:=by
 unfold gT;rw[aA];exact List.length_filter_le ..
def DU(o:bz)(x:bA):bz:=cy {cy o with aF:=gT x o.w.ai}
noncomputable def iX:Cx:={cx with chg:=gX [(112,10),(113,10),(117,10),(111,9),(114,9),(122,9),(118,9),(116,9),(120,9),(119,9),(115,9)]}
theorem Vu:bD iX:=bp
theorem Tg:iX.P.follows .mixedOrders=true:=mixed
def Qc:Nat->List Nat:=fun|1=>[33333]|2=>[55555]|3=>[33333]|7=>[33333]|8=>[33333]|10=>[33333]|11=>[33333,55555]|12=>[33333,55555]|13=>[33333,55555]|14=>[33333,55555]|15=>[33333,55555]|16=>[55555]|20=>[33333]|22=>[33333,55555]|_=>[]
noncomputable abbrev NT:Code:=(Tryz.f64).body.getD .skip
noncomputable abbrev Us:List ResultVar:=(Tryz.f64).results.toList
theorem Ld(o:bz)(x:bA)(hn:o.w.ai.length<=1000)(hl:x.ay.length<=1000)(hp:o.aF.length<=100000)(hs:o.bq.length<=100)(kg:∀a,(bW o.got a).length<=1000)(xg:∀p∈o.aF,p.ah.aj.length<=100000)(yX:∀p∈o.aF,jO o.w o.got p=false) :
 vcp iX [100003] pvW 122 Qc (λ_=>iZ (some (DU o x))=none) ((gL 15 NT).getD .skip) (nK iX [100003] Us (iZ (some (DU o x))))
  ⟨[(0,.ptr 100034 0),(3,.ptr 3 0)],(3,.box ((bj x).map .d))::bH o⟩:=by
 conv=>whnf
 refine⟨_,aq.refl _,?_⟩;conv=>whnf
 have kn:=lift (cx' :=iX) (lg o hn hp (by omega) kg xg yX) rfl rfl;refine⟨[3],_,kn,⟨rfl,rfl,rfl⟩,?_⟩;conv=>whnf
 refine aM ?_;conv=>whnf
 have xK:(cy o).bq.length<=101:=oP hs;have hE:DU o x=cy {cy o with aF:=gT x o.w.ai}:=rfl;have kL:(cy o).w=o.w:=rfl;have xl:(cy o).aF=[]:=rfl;have xu:∀a,(bW (cy o).got a).length<=1000:=kg;refine⟨_,aq.keep (sl:=[(0,.ptr 100034 0),(3,.ptr 3 0)]) (h:=(3,.box ((bj x).map .d))::bH (cy o)),?_⟩;rw[hE];generalize cy o=o1 at xK kL xl xu ⊢;rw[<- kL];rw[<- kL]at hn;conv=>whnf
 refine⟨Nat×List ao,λq=>⟨[(0,.ptr 100034 0),(3,.ptr 3 0),(93,.d (.slice 3 (o1.w.ai.map aR))),(94,.d (.int .i64 ((o1.w.ai.map aR).length:Int))),(95,.d (.int .i64 q.1))],(3,.box ((bj x).map .d))::bH {o1 with aF:=q.2}⟩,
  λq=>q.1<=o1.w.ai.length/\q.2++gT x (o1.w.ai.drop q.1)=gT x o1.w.ai/\q.2.length<=q.1,λq=>o1.w.ai.length-q.1,⟨(0,[]),⟨Nat.zero_le _,rfl,Nat.le_refl _⟩,aq.keep (by repeat' (first|exact trivial|refine⟨⟨rfl,rfl⟩,?_⟩)) ⟨⟨rfl,rfl⟩,⟨rfl,rfl⟩,⟨rfl,rfl⟩,⟨congrArg (λr:List ao=>some (Blk.row 45 3 (r.map aR))) xl,rfl⟩,⟨rfl,rfl⟩,trivial⟩⟩,?_⟩
 rintro⟨k,ps⟩ ⟨hk,hs,yc⟩;dsimp only at hk hs yc;conv=>whnf
 refine ak (λh1=>?_) (λh1=>?_) <;> (rw[h1];conv=>whnf)
 .have hJ:k<o1.w.ai.length:=by simp at h1;omega
  obtain⟨p,kh⟩:∃p,o1.w.ai[k]? =some p:=⟨_,au hJ⟩
  have hd:gT x (o1.w.ai.drop k)=(if ((p.ah.af==x.ah)&& !x.ay.contains p.host)=true then[⟨p.host,⟨x.ah,[]⟩⟩]else[])++gT x (o1.w.ai.drop (k+1)):=by
   rw[drop_cons kh];unfold gT;rw[List.filter_cons];split <;> rfl
  rw[hd, <- List.append_assoc]at hs;have again:((p.ah.af==x.ah)&& !x.ay.contains p.host)=false->ps++gT x (o1.w.ai.drop (k+1))=gT x o1.w.ai:=λh=>by rw[if_neg (by rw[h];decide),List.append_nil]at hs;exact hs
  refine⟨aD k,aR p,aN kh,?_⟩;conv=>whnf
  refine ak (λh2=>?_) (λh2=>?_) <;> (rw[h2];conv=>whnf)
  . (refine⟨_,_,kZ x.ay p.host (by omega),?_⟩;conv=>whnf)
    cases hc:x.ay.contains p.host with
    |true =>
     conv=>whnf
     exact⟨(k+1,ps),⟨hJ,again (by rw[hc];simp),by dsimp only;omega⟩,by(show o1.w.ai.length-(k+1)<o1.w.ai.length-k;omega),aq.keep ⟨ae,ae,ae,ae,⟨ax (k:=k) (by omega),rfl⟩,trivial⟩⟩
    |false =>
     conv=>whnf
     rw[if_pos (by rw[hc];simpa using h2)]at hs;have hP:=lift (cx' :=iX) (GD {o1 with aF:=ps} p.host x.ah (by dsimp only;omega)) rfl rfl;refine⟨[3,11],_,hP,⟨rfl,rfl,rfl⟩,?_⟩;conv=>whnf
     refine aM ?_;conv=>whnf
     exact⟨(k+1,ps++[⟨p.host,⟨x.ah,[]⟩⟩]),⟨hJ,hs,by simp;omega⟩,by(show o1.w.ai.length-(k+1)<o1.w.ai.length-k;omega),aq.keep ⟨ae,ae,ae,ae,⟨ax (k:=k) (by omega),rfl⟩,trivial⟩⟩
  .exact⟨(k+1,ps),⟨hJ,again (by rw[show(p.ah.af==x.ah)=false from h2];rfl),by dsimp only;omega⟩,by(show o1.w.ai.length-(k+1)<o1.w.ai.length-k;omega),aq.keep ⟨ae,ae,ae,ae,⟨ax (k:=k) (by omega),rfl⟩,trivial⟩⟩
 .obtain rfl:k=o1.w.ai.length:=by simp at h1;omega
  rw[List.drop_length]at hs;have hs:ps=gT x o1.w.ai:=by rw[<- hs];exact(List.append_nil _).symm
  have ko:=GF x o1.w.ai;subst hs;have kn:=lift (cx' :=iX) (lg {o1 with aF:=gT x o1.w.ai} hn (by dsimp only;omega) (by dsimp only;omega) xu (λp hp=>by
   unfold gT at hp;obtain⟨q,_,rfl⟩:=List.mem_map.1 hp;simp) (λp hp=>by
   dsimp only at hp;unfold gT at hp;obtain⟨q,_,rfl⟩:=List.mem_map.1 hp;exact Eo)) rfl rfl
  refine⟨_,aq.keep (sl:=[(0,.ptr 100034 0)]) (h:=bH {o1 with aF:=gT x o1.w.ai}),?_⟩;conv=>whnf
  refine⟨[],_,kn,⟨rfl,rfl,rfl⟩,?_⟩;conv=>whnf
  refine aM ?_;conv=>whnf
  exact .inl ⟨[],aq.keep trivial,rfl⟩
def tr(o:bz)(x:bA)(z:aL):aL:=dj o.w o.aP x.ah x.ay (bL z x.ah 2 o.aP (di o.w x.ay))
def tv(o:bz)(x:bA)(ab:aL):Option bz:=match de o.since o.aO (tr o x o.ah)with
 |none=>none
 |some z1=>(match de o.since o.aO (tr o x ab)with
  |none=>none
  |some z2=>some (DU (aS (aS o z1) z2) x))
theorem sG(w:aZ)(l:List Int):(di w l).length=l.length:=by
 unfold di;rw[wK,aA]
theorem sI{o:bz}{z:aL}{p:ao}(h:p∈(aS o z).aF):p∈o.aF\/(p.ah=z/\jO o.w o.got p=false):=by
 have h:p∈o.aF++bT z o.w.ai++dN z (bW o.got z.af):=h;rw[List.append_assoc]at h;rcases List.mem_append.1 h with h|h
 .exact .inl h
 .refine .inr ⟨?_,tN p h⟩;rcases List.mem_append.1 h with h|h
  .unfold bT at h;obtain⟨q,_,rfl⟩:=List.mem_map.1 h;rfl
  .unfold dN at h;obtain⟨q,_,rfl⟩:=List.mem_map.1 h;rfl
theorem uQ(o:bz)(z:aL):(aS o z).aF.length<=o.aF.length+o.w.ai.length+(bW o.got z.af).length:=by
 show(o.aF++bT z o.w.ai++dN z (bW o.got z.af)).length<=_
 have:=Co z o.w.ai;simp[dN];omega
theorem Lc(o:bz)(x:bA)(ab:aL)(hn:o.w.ai.length<=1000)(hl:x.ay.length<=1000)(kF:x.ay≠[])(hh:∀n∈x.ay,bK o.w n=true)(hp:o.aF=[])(hs:o.bq.length<=100)(kg:∀a,(bW o.got a).length<=1000)(hz:bf o.ah=true)(hY:bf ab=true) :
 vcp iX [100003] pvW 122 Qc (λ_=>iZ (tv o x ab)=none) ((gL 11 NT).getD .skip) (nK iX [100003] Us (iZ (tv o x ab)))
  ⟨[(0,.ptr 100034 0),(3,.ptr 3 0),(4,.ptr 4 0)],(3,.box ((bj x).map .d))::(4,.box ((aX ab).map .d))::bH o⟩:=by
 conv=>whnf
 refine⟨_,aq.refl _,?_⟩;conv=>whnf
 have ko:=sG o.w x.ay;have kl:di o.w x.ay≠[]:=λe=>by rw[e]at ko;exact kF (List.eq_nil_of_length_eq_zero ko.symm)
 have hV:=bU (pv' :=pvW) (lift (cx' :=iX) (sF o.w x.ay hl hh) rfl rfl);have hB:=bU (pv' :=pvW) (lift (cx' :=iX) (eI x.ah 2 o.aP (di o.w x.ay)) rfl rfl);have xj:=lift (cx' :=iX) (LA o o.ah x.ah 2 o.aP (di o.w x.ay) x.ah x.ay (dA hz) hh hl (by omega) (λh=>jr (pf _ _ _ _ (hU (mq hz) kl)) h)) rfl rfl;obtain⟨r,hr⟩:∃r,r=tv o x ab:=⟨_,rfl⟩
 rw[<- hr];unfold tv tr at hr;generalize di o.w x.ay=sv at ko kl hV hB xj hr
 (refine cu ?_;conv=>whnf)
 refine⟨[3,4,100034,90032,90040,90041],_,hV,⟨rfl,rfl,rfl⟩,?_⟩;conv=>whnf
 refine aM ?_
 (conv=>arg 2;arg 1;reduce);(conv=>arg 2;arg 2;tactic=>(refine Eq.trans (b:=(3,.box ((bj x).map .d))::(4,.box ((aX ab).map .d))::bH o) ?_ rfl;kernel_rfl))
 conv=>whnf
 repeat (refine cP ?_;conv=>whnf)
 refine⟨[3,4,100034,90032,90040,90041],_,hB,⟨rfl,rfl,rfl⟩,?_⟩;conv=>whnf
 refine aM ?_
 (conv=>arg 2;arg 1;reduce);(conv=>arg 2;arg 2;tactic=>(refine Eq.trans (b:=(3,.box ((bj x).map .d))::(4,.box ((aX ab).map .d))::bH o) ?_ rfl;kernel_rfl))
 conv=>whnf
 repeat (refine cP ?_;conv=>whnf)
 refine⟨_,aq.keep (sl:=[(0,.ptr 100034 0),(3,.ptr 3 0),(4,.ptr 4 0),(8,lr x.ah 2 o.aP sv)]) (h:=(3,.box ((bj x).map .d))::(4,.box ((aX ab).map .d))::bH o),?_⟩;conv=>whnf
 have hG:=bU (pv' :=pvW) (lift (cx' :=iX) (FC o x.ah x.ay) rfl rfl);refine⟨[3,4],_,hG,⟨rfl,rfl,rfl⟩,?_⟩;conv=>whnf
 refine aM ?_;conv=>whnf
 refine⟨_,aq.trans (aq.name 90003 100003 rfl rfl) (aq.keep (sl:=[(0,.ptr 100034 0),(3,.ptr 3 0),(4,.ptr 4 0),(8,lr x.ah 2 o.aP sv),(9,mZ x.ay x.ah)]) (h:=(3,.box ((bj x).map .d))::(4,.box ((aX ab).map .d))::gBz o)),?_⟩;conv=>whnf
 clear hV hB hG;cases hq:de o.since o.aO (dj o.w o.aP x.ah x.ay (bL o.ah x.ah 2 o.aP sv))with
 |none =>
  rw[hq]at xj hr;subst hr;exact⟨[3,4],_,xj,⟨by kernel_rfl,by kernel_rfl,by kernel_rfl⟩,rfl⟩
 |some z1 =>
 rw[hq]at xj hr;dsimp only at hr;have xi:=dA (iE hq);refine⟨[3,4],_,xj,⟨by kernel_rfl,by kernel_rfl,by kernel_rfl⟩,?_⟩;conv=>whnf
 refine aM ?_
 (conv=>arg 2;arg 1;reduce);(conv=>arg 2;arg 2;tactic=>(refine Eq.trans (b:=(3,.box ((bj x).map .d))::(4,.box ((aX ab).map .d))::gBz o) ?_ rfl;kernel_rfl))
 conv=>whnf
 have kB:=lift (cx' :=iX) (kI o z1 xi hn (by rw[hp];simp) (kg _)) rfl rfl;refine⟨[3,4,100003],_,kB,⟨by kernel_rfl,by kernel_rfl,by kernel_rfl⟩,?_⟩;conv=>whnf
 refine aM ?_
 (conv=>arg 2;arg 1;reduce);(conv=>arg 2;arg 2;tactic=>(refine Eq.trans (b:=(3,.box ((bj x).map .d))::(4,.box ((aX ab).map .d))::gBz (aS o z1)) ?_ rfl;kernel_rfl))
 conv=>whnf
 refine⟨_,aq.keep (sl:=[(0,.ptr 100034 0),(3,.ptr 3 0),(4,.ptr 4 0),(8,lr x.ah 2 o.aP sv),(9,mZ x.ay x.ah)]) (h:=(3,.box ((bj x).map .d))::(4,.box ((aX ab).map .d))::gBz (aS o z1)),?_⟩;conv=>whnf
 clear xj kB hq;have xo:=lift (cx' :=iX) (LB (aS o z1) ab x.ah 2 o.aP sv x.ah x.ay (dA hY) hh hl (by omega) (λh=>jr (pf _ _ _ _ (hU (mq hY) kl)) h)) rfl rfl
 change FnP _ _ _ _ _ (ng (gBz (aS o z1)) (de o.since o.aO (dj o.w o.aP x.ah x.ay (bL ab x.ah 2 o.aP sv))))at xo
 cases hq:de o.since o.aO (dj o.w o.aP x.ah x.ay (bL ab x.ah 2 o.aP sv))with
 |none =>
  rw[hq]at xo hr;subst hr;exact⟨[3,4],_,xo,⟨by kernel_rfl,by kernel_rfl,by kernel_rfl⟩,rfl⟩
 |some z2 =>
 rw[hq]at xo hr;dsimp only at hr;have yH:=dA (iE hq);refine⟨[3,4],_,xo,⟨by kernel_rfl,by kernel_rfl,by kernel_rfl⟩,?_⟩;conv=>whnf
 refine aM ?_
 (conv=>arg 2;arg 1;reduce);(conv=>arg 2;arg 2;tactic=>(refine Eq.trans (b:=(3,.box ((bj x).map .d))::(4,.box ((aX ab).map .d))::gBz (aS o z1)) ?_ rfl;kernel_rfl))
 conv=>whnf
 have kj:=uQ o z1;have kM:=kg z1.af;have kT:=kg z2.af;rw[hp]at kj;simp only[List.length_nil]at kj;have kB:=lift (cx' :=iX) (kI (aS o z1) z2 yH hn (by omega) (kg _)) rfl rfl;refine⟨[3,4,100003],_,kB,⟨by kernel_rfl,by kernel_rfl,by kernel_rfl⟩,?_⟩;conv=>whnf
 refine aM ?_
 (conv=>arg 2;arg 1;reduce);(conv=>arg 2;arg 2;tactic=>(refine Eq.trans (b:=(3,.box ((bj x).map .d))::(4,.box ((aX ab).map .d))::gBz (aS (aS o z1) z2)) ?_ rfl;kernel_rfl))
 conv=>whnf
 have kx:(aS (aS o z1) z2).aF.length<=100000:=by
  have:=uQ (aS o z1) z2;have h1:(aS o z1).w.ai.length=o.w.ai.length:=rfl;have h2:(bW (aS o z1).got z2.af).length=(bW o.got z2.af).length:=rfl;omega
 have kU:∀p∈(aS (aS o z1) z2).aF,(p.ah=z2\/p.ah=z1)/\jO o.w o.got p=false:=λp h=>by
  rcases sI h with h|⟨h1,h2⟩
  .rcases sI h with h|⟨h1,h2⟩
   .rw[hp]at h;cases h
   .exact⟨.inr h1,h2⟩
  .exact⟨.inl h1,h2⟩
 have hT:=Ld (aS (aS o z1) z2) x hn hl kx hs kg (λp h=>by
  rcases (kU p h).1 with e|e
  .rw[e];have:=yH.1;omega
  .rw[e];have:=xi.1;omega) (λp h=>(kU p h).2)
 conv at hT=>whnf
 rw[<- hr]at hT;exact fV hT (aq.keep)
theorem qZ{α:Type}(a b:List UInt8)(v:α):∀g:List (List UInt8×α),bG a (cM b v g)=if a=b then some v else bG a g
 |[]=>by
  show(if a=b then some v else none)=_
  rfl
 |(k,x)::t=>by
  have:=qZ a b v t;show bG a (if b=k then(k,v)::t else(k,x)::cM b v t)=if a=b then some v else(if a=k then some x else bG a t)
  by_cases h:b=k
  .subst h;rw[if_pos rfl];show(if a=b then some v else bG a t)=_
   by_cases h2:a=b
   .rw[if_pos h2,if_pos h2]
   .rw[if_neg h2,if_neg h2,if_neg h2]
  .rw[if_neg h];show(if a=k then some x else bG a (cM b v t))=_
   rw[this];by_cases h2:a=k
   .subst h2;rw[if_pos rfl,if_neg (λe=>h e.symm),if_pos rfl]
   .rw[if_neg h2,if_neg h2]
theorem ph(w:aZ):∀(l:List ao) (g:List (Bs×List Int)) (a:Bs),(bW (dF w g l) a).length<=(bW g a).length+l.length
 |[],g,a=>Nat.le_refl _
 |p::t,g,a=>by
  have h1:=ph w t (kv w g p) a;have h2:(bW (kv w g p) a).length<=(bW g a).length+1:=by
   unfold kv;split
   .unfold bW;rw[qZ];split
    .rename_i e;subst e;show((bG p.ah.af g).getD []++[p.host]).length<=_
     simp
    .omega
   .omega
  show(bW (dF w (kv w g p) t) a).length<=_
  simp only[List.length_cons];omega
def eF(o:bz)(x:bA)(l:List Int):List ao:=(l.filter λn=> !o.w.ai.any (fc n x.ah)).map λn=>⟨n,o.ah⟩
theorem Jm(o:bz)(x:bA)(l:List Int):(eF o x l).length<=l.length:=by
 unfold eF;rw[aA];exact List.length_filter_le ..
def rL(o:bz)(x:bA):Option bz:=if (cH o.w.ai x.ah).2=true then tv (eJ {o with aF:=eF o x x.ay}) x (cH o.w.ai x.ah).1 else none
theorem QB(o:bz)(x:bA)(hv:∀p∈o.w.ai,bf p.ah=true)(hn:o.w.ai.length<=1000)(hz:bf o.ah=true)(yd:o.aF=[])(yE:o.bq.length<=50)(kK:o.got=[])(hl:x.ay.length<=1000)(kF:x.ay≠[])(hh:∀n∈x.ay,bK o.w n=true):FnP iX pvW 64 [.ptr 100034 0,.agg ((bj x).map .d)] (bH o) (iZ (rL o x)):=by
 refine bt [100003] Qc Vu Tg Tryz.func64 ?_;conv=>whnf
 obtain⟨r,hr⟩:∃r,r=rL o x:=⟨_,rfl⟩
 rw[<- hr];unfold rL at hr;have hA:=bU (pv' :=pvW) (lift (cx' :=iX) (rq o.w x.ah hv (by omega)) rfl rfl);have xa:=xS (a:=x.ah) hv;generalize cH o.w.ai x.ah=ab at hA hr xa;obtain⟨ab,b⟩:=ab;dsimp only at hA hr xa;apply sX (α:=Unit) (P:=λ_=>True) (canon:=λ_=>⟨[(0,.ptr 100034 0),(3,.ptr 3 0),(4,.ptr 4 0),(5,.d (.bool b))],(3,.box ((bj x).map .d))::(4,.box ((aX ab).map .d))::bH o⟩)
 .intro rest
  (refine cu ?_;conv=>whnf)
  repeat' (first
   |(refine cP ?_;conv=>whnf)
   |(refine⟨[3,100034,90032,90040,90041],_,hA,⟨rfl,rfl,rfl⟩,?_⟩;(conv=>whnf);refine aM ?_;(conv=>whnf))
   |(refine⟨[3,4,100034,90032,90040,90041],_,hA,⟨rfl,rfl,rfl⟩,?_⟩;(conv=>whnf);refine aM ?_;(conv=>whnf))
   |(refine And.intro ?_ ?_ <;> (conv=>whnf)))
  all_goals exact nn (aq.keep) (rest () trivial)
 rintro _ _;unfold App;conv=>whnf
 cases b with
 |false =>
  rw[if_neg (by decide)]at hr;subst hr;conv=>whnf
  have hF:=lift (cx' :=iX) (ku 4 (by decide)) rfl rfl;exact⟨[3,4,100034,90032,90040,90041],_,hF,⟨rfl,rfl,rfl⟩,rfl⟩
 |true =>
 rw[if_pos rfl]at hr;conv=>whnf
 clear hA;refine⟨Nat×List ao,λq=>⟨[(0,.ptr 100034 0),(3,.ptr 3 0),(4,.ptr 4 0),(25,.d (.slice 1 (x.ay.map dm))),(26,.d (.int .i64 ((x.ay.map dm).length:Int))),(27,.d (.int .i64 q.1))],(3,.box ((bj x).map .d))::(4,.box ((aX ab).map .d))::bH {o with aF:=q.2}⟩,
  λq=>q.1<=x.ay.length/\q.2++eF o x (x.ay.drop q.1)=eF o x x.ay/\q.2.length<=q.1,λq=>x.ay.length-q.1,⟨(0,[]),⟨Nat.zero_le _,rfl,Nat.le_refl _⟩,aq.keep (by repeat' (first|exact trivial|refine⟨⟨rfl,rfl⟩,?_⟩)) ⟨⟨rfl,rfl⟩,⟨rfl,rfl⟩,⟨rfl,rfl⟩,⟨rfl,rfl⟩,⟨congrArg (λr:List ao=>some (Blk.row 45 3 (r.map aR))) yd,rfl⟩,⟨rfl,rfl⟩,trivial⟩⟩,?_⟩
 rintro⟨k,ps⟩ ⟨hk,hs,yc⟩;dsimp only at hk hs yc;conv=>whnf
 refine ak (λh1=>?_) (λh1=>?_) <;> (rw[h1];conv=>whnf)
 .have hJ:k<x.ay.length:=by simp at h1;omega
  obtain⟨n,kG⟩:∃n,x.ay[k]? =some n:=⟨_,au hJ⟩
  have hd:eF o x (x.ay.drop k)=(if (!o.w.ai.any (fc n x.ah))=true then[⟨n,o.ah⟩]else[])++eF o x (x.ay.drop (k+1)):=by
   rw[drop_cons kG];unfold eF;rw[List.filter_cons];split <;> rfl
  rw[hd, <- List.append_assoc]at hs;refine⟨aD k,dm n,aN kG,?_⟩;conv=>whnf
  have hC:=bU (pv' :=pvW) (lift (cx' :=iX) (lh o.w n x.ah (by omega)) rfl rfl);generalize o.w.ai.any (fc n x.ah)=c at hC hs
  (refine cu ?_;conv=>whnf)
  refine⟨[3,4,100034,90032,90040,90041],_,hC,⟨rfl,rfl,rfl⟩,?_⟩;conv=>whnf
  refine aM ?_;conv=>whnf
  cases c with
  |true =>
   rw[if_neg (by decide),List.append_nil]at hs;conv=>whnf
   exact⟨(k+1,ps),⟨hJ,hs,by dsimp only;omega⟩,by(show x.ay.length-(k+1)<x.ay.length-k;omega),aq.keep ⟨ae,ae,ae,ae,ae,⟨ax (k:=k) (by omega),rfl⟩,trivial⟩⟩
  |false =>
   rw[if_pos (by decide)]at hs;conv=>whnf
   have hP:=lift (cx' :=iX) (qp {o with aF:=ps} n o.ah (dA hz) (by dsimp only;omega)) rfl rfl;refine⟨[3,4],_,hP,⟨rfl,rfl,rfl⟩,?_⟩;conv=>whnf
   refine aM ?_;conv=>whnf
   exact⟨(k+1,ps++[⟨n,o.ah⟩]),⟨hJ,hs,by simp;omega⟩,by(show x.ay.length-(k+1)<x.ay.length-k;omega),aq.keep ⟨ae,ae,ae,ae,ae,⟨ax (k:=k) (by omega),rfl⟩,trivial⟩⟩
 .obtain rfl:k=x.ay.length:=by simp at h1;omega
  rw[List.drop_length]at hs;have hs:ps=eF o x x.ay:=by rw[<- hs];exact(List.append_nil _).symm
  have kg:=Jm o x x.ay;subst hs;have xg:∀p∈eF o x x.ay,p.ah=o.ah:=λp hp=>by
   unfold eF at hp;obtain⟨q,_,rfl⟩:=List.mem_map.1 hp;rfl
  have kn:=lift (cx' :=iX) (yh {o with aF:=eF o x x.ay} o.ah.af hn (by dsimp only;omega) (by dsimp only;omega) kK (λp hp=>by rw[xg p hp];have:=(dA hz).1;omega) (λp hp=>by rw[xg p hp])) rfl rfl;rw[Af]at kn;refine⟨[3,4],_,kn,⟨rfl,rfl,rfl⟩,?_⟩;conv=>whnf
  refine aM ?_;conv=>whnf
  have hT:=Lc (eJ {o with aF:=eF o x x.ay}) x ab hn hl kF hh rfl (by
   show(o.bq++_).length<=100
   rw[List.length_append];split <;> simp <;> omega) (λa=>by
   have:=ph o.w (eF o x x.ay) o.got a;have e:bW o.got a=[]:=by rw[kK];rfl
   rw[e]at this;show(bW (dF o.w o.got (eF o x x.ay)) a).length<=1000
   simp at this;omega) hz (xa rfl)
  conv at hT=>whnf
  rw[<- hr]at hT;exact fV hT (aq.keep)
end Go.Proofs.YtodofogcincleaaGreatDoor
namespace NQ
open Go Go.RowKit
theorem FnP.RA{cx:Cx}{pv:Int->Value}{f:FuncId}{args:List AV}{ds:List D}{h:List (Nat×Blk)}{out:Option (AV×List (Nat×Blk))}(e:cA iu args=some ds)(hf:FnP cx pv f (ds.map AV.d) h out):FnP cx pv f args h out:=by
 obtain⟨e1,e2⟩:=cD e;refine⟨hf.1,λO w σ vs hO hG kA kt hH kQ ki=>hf.2 O w σ vs hO hG kA kt hH (by rw[aA,e1];exact kQ) λj c hj=>?_⟩;rw[bc]at hj;cases hd:ds[j]? with
 |none=>rw[hd]at hj;cases hj
 |some d =>
  rw[hd]at hj;cases hj;obtain⟨c,hc,yM⟩:=e2 j d hd;exact .d _ _ (jo yM (ki j c hc))
end NQ
namespace Go.Proofs.YtodofogcincleaaGreatDoor
open NQ Go.RowKit
def Ln(x:bA)(s:Signed):Bool:=(bJ s.set.name x.name).1
def ej(part:aL)(l:List Int):List ao:=l.map λn=>⟨n,part⟩
def GB(o:bz)(x:bA):aL:=dj o.w o.aP x.name x.ay (bL (bL (sC (Ln x) o.ah) x.name 2 o.aP (di o.w x.ay)) x.name 6 o.aP (keyOf x))
def qw(o:bz)(x:bA):Option bz:=match de o.since o.aO (GB o x)with
 |none=>none
 |some z=>some (cy (aS o z))
def qv(o:bz)(x:bA)(part:aL):Option bz:=qw (eJ {o with aF:=ej part x.ay}) x
attribute [local irreducible] NQ.FnP
noncomputable def eY:Cx:={cx with chg:=gX [(117,10),(123,9),(132,9),(195,9),(131,9),(63,11),(111,9),(114,9),(118,9),(116,9),(120,9),(119,9),(115,9)],bld:=[74]}
theorem Vx:bD eY:=bp
theorem Tj:eY.P.follows .mixedOrders=true:=mixed
def FA:Nat->List Nat:=fun|1=>[33333]|2=>[33333,55555]|4=>[33333,55555,3]|5=>[55555]|10=>[33333,55555]|11=>[33333]|12=>[33333,55555,90020]|13=>[55555]|16=>[33333]|18=>[33333,55555]|19=>[33333,55555]|20=>[33333]|_=>[]
noncomputable abbrev Bj:Code:=(Tryz.f67).body.getD .skip
noncomputable abbrev LN:List ResultVar:=(Tryz.f67).results.toList
theorem Ha(F:FuncId)(x:bA):FnP cxW pv0 132 [.d (.fn F [] [.ptr (bj x)])] [] (some (woA F x,[])):=by
 refine bt [] (fun|1=>[1]|_=>[]) tyW tq Tryz.func132 ?_;conv=>whnf
 exact iQ rfl rfl rfl
theorem yD(F:FuncId)(x:bA):FnP cxW pv0 132 [.fn F [] [.d (.ptr (bj x))]] [] (some (woA F x,[])):=FnP.RA (ds:=[.fn F [] [.ptr (bj x)]]) rfl (Ha F x)
theorem IA(o:bz)(x:bA)(hn:o.w.ai.length<=1000)(hl:x.ay.length<=1000)(kF:x.ay≠[])(hh:∀n∈x.ay,bK o.w n=true)(hp:o.aF=[])(hs:o.bq.length<=100)(kg:∀a,(bW o.got a).length<=1000)(hz:bf o.ah=true) :
 vcp eY [100003,100004] pvW 135 FA (λ_=>iZ (qw o x)=none) ((gL 19 Bj).getD .skip) (nK eY [100003,100004] LN (iZ (qw o x)))
  ⟨[(0,.ptr 100034 0),(3,.d (.ptr (bj x))),(7,.d (.slice 3 ((di o.w x.ay).map aQ))),(8,mZ x.ay x.name)],gBz o⟩:=by
 conv=>whnf
 refine⟨_,aq.refl _,?_⟩;conv=>whnf
 obtain⟨r,hr⟩:∃r,r=qw o x:=⟨_,rfl⟩
 rw[<- hr];have ko:=sG o.w x.ay;have kl:di o.w x.ay≠[]:=λe=>by rw[e]at ko;exact kF (List.eq_nil_of_length_eq_zero ko.symm)
 have hS:=lift (cx' :=eY) (LD o o.ah (Ln x) x x.name 2 o.aP (di o.w x.ay) 6 (keyOf x) x.name x.ay (dA hz) hh hl (by omega) (by simp[keyOf]) (λs=>IN s x) (λh=>jr (pf _ _ _ _ (hU (hU (Qa _ (mq hz)) kl) (by simp[keyOf]))) h)) rfl rfl;unfold qw GB at hr;generalize di o.w x.ay=sv at ko kl hS hr ⊢;have hW:=bU (pv' :=pvW) (lift (cx' :=eY) (yD 135 x) rfl rfl);have hK:=bU (pv' :=pvW) (lift (cx' :=eY) (oQ x.key) rfl rfl);have hB:=bU (pv' :=pvW) (lift (cx' :=eY) (eI x.name 2 o.aP sv) rfl rfl);have yo:=bU (pv' :=pvW) (lift (cx' :=eY) (eI x.name 6 o.aP (keyOf x)) rfl rfl)
 cases hq:de o.since o.aO (dj o.w o.aP x.name x.ay (bL (bL (sC (Ln x) o.ah) x.name 2 o.aP sv) x.name 6 o.aP (keyOf x)))with
 |none =>
  rw[hq]at hS hr;subst hr
  (refine cu ?_;conv=>whnf)
  repeat' (first
  |(refine cP ?_;conv=>whnf)
  |(refine⟨[100003,100034,90032,90040,90041],_,hW,⟨rfl,rfl,rfl⟩,?_⟩;(conv=>whnf);refine aM ?_;((conv=>arg 2;arg 1;reduce);(conv=>arg 2;arg 2;tactic=>(refine Eq.trans (b:=gBz o) ?_ rfl;kernel_rfl)));(conv=>whnf))
  |(refine⟨[100003,100034,90032,90040,90041],_,hK,⟨rfl,rfl,rfl⟩,?_⟩;(conv=>whnf);refine aM ?_;((conv=>arg 2;arg 1;reduce);(conv=>arg 2;arg 2;tactic=>(refine Eq.trans (b:=gBz o) ?_ rfl;kernel_rfl)));(conv=>whnf))
  |(refine⟨[100003,100034,90032,90040,90041],_,hB,⟨rfl,rfl,rfl⟩,?_⟩;(conv=>whnf);refine aM ?_;((conv=>arg 2;arg 1;reduce);(conv=>arg 2;arg 2;tactic=>(refine Eq.trans (b:=gBz o) ?_ rfl;kernel_rfl)));(conv=>whnf))
  |(refine⟨[100003,100034,90032,90040,90041],_,yo,⟨rfl,rfl,rfl⟩,?_⟩;(conv=>whnf);refine aM ?_;((conv=>arg 2;arg 1;reduce);(conv=>arg 2;arg 2;tactic=>(refine Eq.trans (b:=gBz o) ?_ rfl;kernel_rfl)));(conv=>whnf))
  |exact⟨[],_,hS,⟨by kernel_rfl,by kernel_rfl,by kernel_rfl⟩,rfl⟩
  |(refine And.intro ?_ ?_ <;> (conv=>whnf)))
 |some z =>
 rw[hq]at hS hr;dsimp only at hr;have xi:=dA (iE hq);have kB:=lift (cx' :=eY) (kI o z xi hn (by rw[hp];simp) (kg _)) rfl rfl;have kj:=uQ o z;have kM:=kg z.af;rw[hp]at kj;simp only[List.length_nil]at kj;have kU:∀p∈(aS o z).aF,p.ah=z/\jO o.w o.got p=false:=λp h=>by
  rcases sI h with h|h
  .rw[hp]at h;cases h
  .exact h
 have kn:=lift (cx' :=eY) (lg (aS o z) hn (by omega) (by show o.bq.length<=1000;omega) kg (λp h=>by rw[(kU p h).1];have:=xi.1;omega) (λp h=>(kU p h).2)) rfl rfl
 (refine cu ?_;conv=>whnf)
 repeat' (first
  |(refine cP ?_;conv=>whnf)
  |(refine⟨[100003,100034,90032,90040,90041],_,hW,⟨rfl,rfl,rfl⟩,?_⟩;(conv=>whnf);refine aM ?_;((conv=>arg 2;arg 1;reduce);(conv=>arg 2;arg 2;tactic=>(refine Eq.trans (b:=gBz o) ?_ rfl;kernel_rfl)));(conv=>whnf))
  |(refine⟨[100003,100034,90032,90040,90041],_,hK,⟨rfl,rfl,rfl⟩,?_⟩;(conv=>whnf);refine aM ?_;((conv=>arg 2;arg 1;reduce);(conv=>arg 2;arg 2;tactic=>(refine Eq.trans (b:=gBz o) ?_ rfl;kernel_rfl)));(conv=>whnf))
  |(refine⟨[100003,100034,90032,90040,90041],_,hB,⟨rfl,rfl,rfl⟩,?_⟩;(conv=>whnf);refine aM ?_;((conv=>arg 2;arg 1;reduce);(conv=>arg 2;arg 2;tactic=>(refine Eq.trans (b:=gBz o) ?_ rfl;kernel_rfl)));(conv=>whnf))
  |(refine⟨[100003,100034,90032,90040,90041],_,yo,⟨rfl,rfl,rfl⟩,?_⟩;(conv=>whnf);refine aM ?_;((conv=>arg 2;arg 1;reduce);(conv=>arg 2;arg 2;tactic=>(refine Eq.trans (b:=gBz o) ?_ rfl;kernel_rfl)));(conv=>whnf))
  |(refine⟨[],_,hS,⟨by kernel_rfl,by kernel_rfl,by kernel_rfl⟩,?_⟩;(conv=>whnf);refine aM ?_;((conv=>arg 2;arg 1;reduce);(conv=>arg 2;arg 2;tactic=>(refine Eq.trans (b:=gBz o) ?_ rfl;kernel_rfl)));(conv=>whnf))
  |(refine⟨[100003],_,kB,⟨by kernel_rfl,by kernel_rfl,by kernel_rfl⟩,?_⟩;(conv=>whnf);refine aM ?_;((conv=>arg 2;arg 1;reduce);(conv=>arg 2;arg 2;tactic=>(refine Eq.trans (b:=gBz (aS o z)) ?_ rfl;kernel_rfl)));(conv=>whnf))
  |(refine⟨[100003],_,kn,⟨by kernel_rfl,by kernel_rfl,by kernel_rfl⟩,?_⟩;(conv=>whnf);refine aM ?_;((conv=>arg 2;arg 1;reduce);(conv=>arg 2;arg 2;tactic=>(refine Eq.trans (b:=gBz (cy (aS o z))) ?_ rfl;kernel_rfl)));(conv=>whnf))
  |(refine And.intro ?_ ?_ <;> (conv=>whnf)))
 all_goals subst hr
 all_goals exact .inl ⟨[],aq.keep trivial,rfl⟩
theorem Iz(o:bz)(x:bA)(part:aL)(xg:ZSm part)(hn:o.w.ai.length<=1000)(hl:x.ay.length<=1000)(kF:x.ay≠[])(hh:∀n∈x.ay,bK o.w n=true)(hp:o.aF=[])(hs:o.bq.length<=50)(kK:o.got=[])(hz:bf o.ah=true) :
 vcp eY [100003,100004] pvW 135 FA (λ_=>iZ (qv o x part)=none) ((gL 13 Bj).getD .skip) (nK eY [100003,100004] LN (iZ (qv o x part)))
  ⟨[(0,.ptr 100034 0),(3,.d (.ptr (bj x))),(5,.ptr 100004 0),(7,.d (.slice 3 ((di o.w x.ay).map aQ))),(8,mZ x.ay x.name)],(100004,.box ((aX part).map .d))::gBz o⟩:=by
 conv=>whnf
 refine⟨_,aq.refl _,?_⟩;conv=>whnf
 generalize xD:di o.w x.ay=sv
 refine⟨Nat,λk=>⟨[(0,.ptr 100034 0),(3,.d (.ptr (bj x))),(5,.ptr 100004 0),(7,.d (.slice 3 (sv.map aQ))),(8,mZ x.ay x.name),(90,.d (.slice 1 (x.ay.map dm))),(91,.d (.int .i64 ((x.ay.map dm).length:Int))),(92,.d (.int .i64 k))],(100004,.box ((aX part).map .d))::gBz {o with aF:=ej part (x.ay.take k)}⟩,
  λk=>k<=x.ay.length,λk=>x.ay.length-k,⟨0,Nat.zero_le _,aq.keep (by repeat' (first|exact trivial|refine⟨⟨rfl,rfl⟩,?_⟩)) ⟨⟨rfl,rfl⟩,⟨rfl,rfl⟩,⟨rfl,rfl⟩,⟨rfl,rfl⟩,⟨congrArg (λr:List ao=>some (Blk.row 45 3 (r.map aR))) hp,rfl⟩,⟨rfl,rfl⟩,trivial⟩⟩,λk hk=>?_⟩
 conv=>whnf
 refine ak (λh1=>?_) (λh1=>?_) <;> (rw[h1];conv=>whnf)
 .have hJ:k<x.ay.length:=by simp at h1;omega
  obtain⟨n,kG⟩:∃n,x.ay[k]? =some n:=⟨_,au hJ⟩
  refine⟨aD k,dm n,aN kG,?_⟩;conv=>whnf
  have hP:=lift (cx' :=eY) (qp {o with aF:=ej part (x.ay.take k)} n part xg (by simp[ej];omega)) rfl rfl;refine⟨[100003,100004],_,hP,⟨rfl,rfl,rfl⟩,?_⟩;conv=>whnf
  refine aM ?_;conv=>whnf
  have e:ej part (x.ay.take k)++[⟨n,part⟩]=ej part (x.ay.take (k+1)):=by
   unfold ej;rw[List.take_add_one,kG];simp
  exact⟨k+1,hJ,by(show x.ay.length-(k+1)<x.ay.length-k;omega),aq.keep ⟨ae,ae,ae,ae,ae,ae,ae,⟨ax (k:=k) (by omega),rfl⟩,trivial⟩ ⟨ae,ae,ae,ae,⟨congrArg (λr:List ao=>some (Blk.row 45 3 (r.map aR))) e,rfl⟩,ae,trivial⟩⟩
 .obtain rfl:k=x.ay.length:=by simp at h1;omega
  have e:ej part (x.ay.take x.ay.length)=ej part x.ay:=by rw[List.take_length]
  refine⟨_,aq.keep (sl:=[(0,.ptr 100034 0),(3,.d (.ptr (bj x))),(7,.d (.slice 3 (sv.map aQ))),(8,mZ x.ay x.name)]) (h:=gBz {o with aF:=ej part x.ay}) (by repeat' (first|exact trivial|refine⟨⟨rfl,rfl⟩,?_⟩)) ⟨⟨rfl,rfl⟩,⟨rfl,rfl⟩,⟨rfl,rfl⟩,⟨congrArg (λr:List ao=>some (Blk.row 45 3 (r.map aR))) e,rfl⟩,⟨rfl,rfl⟩,trivial⟩,?_⟩;conv=>whnf
  have kU:∀p∈ej part x.ay,p.ah=part:=λp h=>by
   unfold ej at h;obtain⟨q,_,rfl⟩:=List.mem_map.1 h;rfl
  have zh:(ej part x.ay).length=x.ay.length:=by simp[ej]
  have kn:=lift (cx' :=eY) (yh {o with aF:=ej part x.ay} part.af hn (by dsimp only;omega) (by dsimp only;omega) kK (λp h=>by rw[kU p h];have:=xg.1;omega) (λp h=>by rw[kU p h])) rfl rfl;rw[Af]at kn;refine⟨[100003],_,kn,⟨rfl,rfl,rfl⟩,?_⟩;conv=>whnf
  refine aM ?_;conv=>whnf
  have hT:=IA (eJ {o with aF:=ej part x.ay}) x hn hl kF hh rfl (by
   show(o.bq++_).length<=100
   rw[List.length_append];split <;> simp <;> omega) (λa=>by
   have:=ph o.w (ej part x.ay) o.got a;have e:bW o.got a=[]:=by rw[kK];rfl
   rw[e]at this;show(bW (dF o.w o.got (ej part x.ay)) a).length<=1000
   simp at this;omega) hz
  have yf:di (eJ {o with aF:=ej part x.ay}).w x.ay=sv:=xD;rw[yf]at hT;conv at hT=>whnf
  exact fV hT (aq.keep)
def AL(x:bA)(s:Signed):Bool:=decide (s.set.type=8)|| !(bJ s.set.name x.name).1
def kE(s:Signed):Signed:=⟨s.set,[]⟩
def Vc(o:bz)(x:bA):aL:=⟨x.name,(o.ah.aj.filter λs=> !AL x s).map kE⟩
def Sc(o:bz)(x:bA)(st:cG):aL:=dj o.w o.aP x.name x.ay (bL (bL (bL (Vc o x) x.name 2 o.aP (di o.w x.ay)) x.name 4 st.aP [⟨[],0,(kq st).m⟩]) x.name 7 o.aP (keyOf x))
def wM(o:bz)(x:bA)(st:cG)(l:List Signed):Option bz:=match de o.since o.aO (dj o.w o.aP x.name x.ay (bL (bL (bL ⟨x.name,l.map kE⟩ x.name 2 o.aP (di o.w x.ay)) x.name 4 st.aP [⟨[],0,(kq st).m⟩]) x.name 7 o.aP (keyOf x)))with
 |none=>none
 |some part=>qv o x part
def ri(o:bz)(x:bA):Option bz:=if (wfR o.ah x.ah 4).2=true then(match de o.since o.aO (Sc o x (wfR o.ah x.ah 4).1)with
 |none=>none
 |some part=>qv o x part)else none
theorem LO(o:bz)(x:bA)(st:cG)(m:List Signed)(sv:List Datum)(d0:Datum)(xJ:ZSm ⟨x.name,m⟩)(xI:mh ⟨x.name,m⟩)(kc:(st.data.map aQ)[(0:Int).toNat]? =some (aQ d0))(ko:sv.length=x.ay.length)(kl:sv≠[])(xD:di o.w x.ay=sv)(hn:o.w.ai.length<=1000)(hl:x.ay.length<=1000)(kF:x.ay≠[])(hh:∀n∈x.ay,bK o.w n=true)(hp:o.aF=[])(hs:o.bq.length<=50)(kK:o.got=[])(hz:bf o.ah=true)(r:Option bz)
 (hr:r=match de o.since o.aO (dj o.w o.aP x.name x.ay (bL (bL (bL ⟨x.name,m⟩ x.name 2 o.aP sv) x.name 4 st.aP [⟨[],0,d0.m⟩]) x.name 7 o.aP (keyOf x)))with
  |none=>none
  |some part=>qv o x part) :
 vcp eY [100003,100004] pvW 135 FA (λ_=>iZ r=none) ((gL 12 Bj).getD .skip) (nK eY [100003,100004] LN (iZ r))
  ⟨[(0,.ptr 100034 0),(3,.d (.ptr (bj x))),(4,.ptr 4 0),(5,.ptr 100004 0),(7,.d (.slice 3 (sv.map aQ))),(8,mZ x.ay x.name)],fU ⟨x.name,m⟩++(4,.box ((cg st).map .d))::gBz o⟩:=by
 conv=>whnf
 refine⟨_,aq.refl _,?_⟩;conv=>whnf
 have hS:=lift (cx' :=eY) (LC o ⟨x.name,m⟩ x.name 2 o.aP sv 4 st.aP [⟨[],0,d0.m⟩] 7 (keyOf x) x.name x.ay xJ hh hl (by omega) (by simp) (by simp[keyOf]) (λh=>jr (pf _ _ _ _ (hU (hU (hU xI kl) (by simp)) (by simp[keyOf]))) h)) rfl rfl;have kz:=bU (pv' :=pvW) (lift (cx' :=eY) (eI x.name 2 o.aP sv) rfl rfl);have kS:=bU (pv' :=pvW) (lift (cx' :=eY) (eI x.name 4 st.aP [⟨[],0,d0.m⟩]) rfl rfl);have yp:=bU (pv' :=pvW) (lift (cx' :=eY) (eI x.name 7 o.aP (keyOf x)) rfl rfl);have hK:=bU (pv' :=pvW) (lift (cx' :=eY) (oQ x.key) rfl rfl)
 cases hq:de o.since o.aO (dj o.w o.aP x.name x.ay (bL (bL (bL ⟨x.name,m⟩ x.name 2 o.aP sv) x.name 4 st.aP [⟨[],0,d0.m⟩]) x.name 7 o.aP (keyOf x)))with
 |none =>
  rw[hq]at hS hr;subst hr
  (refine cu ?_;conv=>whnf)
  repeat' (first
  |(refine cP ?_;conv=>whnf)
  |(refine⟨Int.le_refl 0,aQ d0,kc,?_⟩;conv=>whnf)
  |(refine⟨[4,100003,100004,100034,90032,90040,90041],_,kz,⟨rfl,rfl,rfl⟩,?_⟩;(conv=>whnf);refine aM ?_;((conv=>arg 2;arg 1;reduce);(conv=>arg 2;arg 2;tactic=>(refine Eq.trans (b:=(100004,.box ((aX ⟨x.name,m⟩).map .d))::(4,.box ((cg st).map .d))::gBz o) ?_ rfl;kernel_rfl)));(conv=>whnf))
  |(refine⟨[4,100003,100004,100034,90032,90040,90041],_,kS,⟨rfl,rfl,rfl⟩,?_⟩;(conv=>whnf);refine aM ?_;((conv=>arg 2;arg 1;reduce);(conv=>arg 2;arg 2;tactic=>(refine Eq.trans (b:=(100004,.box ((aX ⟨x.name,m⟩).map .d))::(4,.box ((cg st).map .d))::gBz o) ?_ rfl;kernel_rfl)));(conv=>whnf))
  |(refine⟨[4,100003,100004,100034,90032,90040,90041],_,hK,⟨rfl,rfl,rfl⟩,?_⟩;(conv=>whnf);refine aM ?_;((conv=>arg 2;arg 1;reduce);(conv=>arg 2;arg 2;tactic=>(refine Eq.trans (b:=(100004,.box ((aX ⟨x.name,m⟩).map .d))::(4,.box ((cg st).map .d))::gBz o) ?_ rfl;kernel_rfl)));(conv=>whnf))
  |(refine⟨[4,100003,100004,100034,90032,90040,90041],_,yp,⟨rfl,rfl,rfl⟩,?_⟩;(conv=>whnf);refine aM ?_;((conv=>arg 2;arg 1;reduce);(conv=>arg 2;arg 2;tactic=>(refine Eq.trans (b:=(100004,.box ((aX ⟨x.name,m⟩).map .d))::(4,.box ((cg st).map .d))::gBz o) ?_ rfl;kernel_rfl)));(conv=>whnf))
  |exact⟨[4,100004],_,hS,⟨by kernel_rfl,by kernel_rfl,by kernel_rfl⟩,rfl⟩
  |(refine And.intro ?_ ?_ <;> (conv=>whnf)))
 |some part =>
 rw[hq]at hS hr;dsimp only at hr;have xi:=dA (iE hq);have hT:=Iz o x part xi hn hl kF hh hp hs kK hz;rw[xD, <- hr]at hT;conv at hT=>whnf
 (refine cu ?_;conv=>whnf)
 repeat' (first
  |(refine cP ?_;conv=>whnf)
  |(refine⟨Int.le_refl 0,aQ d0,kc,?_⟩;conv=>whnf)
  |(refine⟨[4,100003,100004,100034,90032,90040,90041],_,kz,⟨rfl,rfl,rfl⟩,?_⟩;(conv=>whnf);refine aM ?_;((conv=>arg 2;arg 1;reduce);(conv=>arg 2;arg 2;tactic=>(refine Eq.trans (b:=(100004,.box ((aX ⟨x.name,m⟩).map .d))::(4,.box ((cg st).map .d))::gBz o) ?_ rfl;kernel_rfl)));(conv=>whnf))
  |(refine⟨[4,100003,100004,100034,90032,90040,90041],_,kS,⟨rfl,rfl,rfl⟩,?_⟩;(conv=>whnf);refine aM ?_;((conv=>arg 2;arg 1;reduce);(conv=>arg 2;arg 2;tactic=>(refine Eq.trans (b:=(100004,.box ((aX ⟨x.name,m⟩).map .d))::(4,.box ((cg st).map .d))::gBz o) ?_ rfl;kernel_rfl)));(conv=>whnf))
  |(refine⟨[4,100003,100004,100034,90032,90040,90041],_,hK,⟨rfl,rfl,rfl⟩,?_⟩;(conv=>whnf);refine aM ?_;((conv=>arg 2;arg 1;reduce);(conv=>arg 2;arg 2;tactic=>(refine Eq.trans (b:=(100004,.box ((aX ⟨x.name,m⟩).map .d))::(4,.box ((cg st).map .d))::gBz o) ?_ rfl;kernel_rfl)));(conv=>whnf))
  |(refine⟨[4,100003,100004,100034,90032,90040,90041],_,yp,⟨rfl,rfl,rfl⟩,?_⟩;(conv=>whnf);refine aM ?_;((conv=>arg 2;arg 1;reduce);(conv=>arg 2;arg 2;tactic=>(refine Eq.trans (b:=(100004,.box ((aX ⟨x.name,m⟩).map .d))::(4,.box ((cg st).map .d))::gBz o) ?_ rfl;kernel_rfl)));(conv=>whnf))
  |(refine⟨[4,100004],_,hS,⟨by kernel_rfl,by kernel_rfl,by kernel_rfl⟩,?_⟩;(conv=>whnf);refine aM ?_;((conv=>arg 2;arg 1;reduce);(conv=>arg 2;arg 2;tactic=>(refine Eq.trans (b:=(100004,.box ((aX ⟨x.name,m⟩).map .d))::(4,.box ((cg st).map .d))::gBz o) ?_ rfl;kernel_rfl)));(conv=>whnf))
  |(refine And.intro ?_ ?_ <;> (conv=>whnf)))
 all_goals exact fV hT (aq.keep)
theorem Oy(o:bz)(x:bA)(st:cG)(l:List Signed)(xU:ZSm ⟨x.name,l⟩)(yN:mh ⟨x.name,l⟩)(kC:st.data≠[])(hn:o.w.ai.length<=1000)(hl:x.ay.length<=1000)(kF:x.ay≠[])(hh:∀n∈x.ay,bK o.w n=true)(hp:o.aF=[])(hs:o.bq.length<=50)(kK:o.got=[])(hz:bf o.ah=true) :
 vcp eY [100003,100004] pvW 135 FA (λ_=>iZ (wM o x st l)=none) ((gL 5 Bj).getD .skip) (nK eY [100003,100004] LN (iZ (wM o x st l)))
  ⟨[(0,.ptr 100034 0),(3,.d (.ptr (bj x))),(4,.ptr 4 0),(5,.ptr 100004 0)],fU ⟨x.name,l⟩++(4,.box ((cg st).map .d))::bH o⟩:=by
 conv=>whnf
 refine⟨_,aq.refl _,?_⟩;conv=>whnf
 obtain⟨r,hr⟩:∃r,r=wM o x st l:=⟨_,rfl⟩
 rw[<- hr];have zg:l.length<=20000:=xU.1;refine⟨Nat,λk=>⟨[(0,.ptr 100034 0),(3,.d (.ptr (bj x))),(4,.ptr 4 0),(5,.ptr 100004 0),(32,.d (.int .i64 ((l.map aw).length:Int))),(33,.d (.int .i64 k))],fU ⟨x.name,(l.take k).map kE++l.drop k⟩++(4,.box ((cg st).map .d))::bH o⟩,
  λk=>k<=l.length,λk=>l.length-k,⟨0,Nat.zero_le _,aq.keep⟩,λk hk=>?_⟩
 conv=>whnf
 refine ak (λh1=>?_) (λh1=>?_) <;> (rw[h1];conv=>whnf)
 .have hJ:k<l.length:=by simp at h1;omega
  obtain⟨s,kX⟩:∃s,l[k]? =some s:=⟨_,au hJ⟩
  refine⟨aD k,by simp;omega,?_⟩;conv=>whnf
  have xQ:(((l.take k).map kE++l.drop k).map aw)[k]? =some (aw s):=by
   rw[bc,cL (by simp;omega)];simp[Nat.min_eq_left (Nat.le_of_lt hJ),kX]
  refine⟨aw s,xQ,?_⟩;conv=>whnf
  have e:(((l.take k).map kE++l.drop k).map aw).set k (aw (kE s))=((l.take (k+1)).map kE++l.drop (k+1)).map aw:=by
   rw[<- List.map_set,List.set_append_right _ _ (by simp;omega),drop_cons kX,List.take_add_one,kX];simp[Nat.min_eq_left (Nat.le_of_lt hJ)]
  exact⟨k+1,hJ,by(show l.length-(k+1)<l.length-k;omega),aq.keep ⟨ae,ae,ae,ae,ae,⟨ax (k:=k) (by omega),rfl⟩,trivial⟩ ⟨ae,⟨congrArg (λr=>some (Blk.row 68 5 r)) e,rfl⟩,ae,ae,ae,ae,ae,trivial⟩⟩
 .obtain rfl:k=l.length:=by simp at h1;omega
  have e:((l.take l.length).map kE++l.drop l.length).map aw=(l.map kE).map aw:=by rw[List.take_length,List.drop_length,List.append_nil]
  refine⟨_,aq.keep (sl:=[(0,.ptr 100034 0),(3,.d (.ptr (bj x))),(4,.ptr 4 0),(5,.ptr 100004 0)]) (h:=fU ⟨x.name,l.map kE⟩++(4,.box ((cg st).map .d))::bH o) (by repeat' (first|exact trivial|refine⟨⟨rfl,rfl⟩,?_⟩)) ⟨⟨rfl,rfl⟩,⟨congrArg (λr=>some (Blk.row 68 5 r)) e,rfl⟩,⟨rfl,rfl⟩,⟨rfl,rfl⟩,⟨rfl,rfl⟩,⟨rfl,rfl⟩,⟨rfl,rfl⟩,trivial⟩,?_⟩;unfold wM at hr;have xJ:ZSm ⟨x.name,l.map kE⟩:=⟨by show(l.map kE).length<=_;rw[aA];exact xU.1,λs h=>by
   obtain⟨q,hq,rfl⟩:=List.mem_map.1 h;exact⟨(xU.2 q hq).1,by simp[kE]⟩⟩
  have xI:mh ⟨x.name,l.map kE⟩:=λs h=>by
   obtain⟨q,hq,rfl⟩:=List.mem_map.1 h;exact yN q hq
  generalize l.map kE=m at xJ xI hr ⊢
  conv=>whnf
  have ko:=sG o.w x.ay;have kl:di o.w x.ay≠[]:=λe=>by rw[e]at ko;exact kF (List.eq_nil_of_length_eq_zero ko.symm)
  have hV:=bU (pv' :=pvW) (lift (cx' :=eY) (sF o.w x.ay hl hh) rfl rfl);obtain⟨d0,dt,kr⟩:∃d t,st.data=d::t:=by
   cases hc:st.data with
   |nil=>exact absurd hc kC
   |cons d t=>exact⟨d,t,rfl⟩
  have xc:kq st=d0:=by unfold kq;rw[kr]
  have kc:(st.data.map aQ)[(0:Int).toNat]? =some (aQ d0):=by rw[kr];rfl
  rw[xc]at hr;generalize xD:di o.w x.ay=sv at ko kl hV hr
  (refine cu ?_;conv=>whnf)
  refine⟨[4,100004,90020,100034,90032,90040,90041],_,hV,⟨rfl,rfl,rfl⟩,?_⟩;conv=>whnf
  refine aM ?_
  (conv=>arg 2;arg 1;reduce);(conv=>arg 2;arg 2;tactic=>(refine Eq.trans (b:=fU ⟨x.name,m⟩++(4,.box ((cg st).map .d))::bH o) ?_ rfl;kernel_rfl))
  conv=>whnf
  repeat (refine cP ?_;conv=>whnf)
  have hG:=bU (pv' :=pvW) (lift (cx' :=eY) (FC o x.name x.ay) rfl rfl);refine⟨[4,100004,90020],_,hG,⟨rfl,rfl,rfl⟩,?_⟩;conv=>whnf
  refine aM ?_
  (conv=>arg 2;arg 1;reduce)
  conv=>whnf
  have hT:=LO o x st m sv d0 xJ xI kc ko kl xD hn hl kF hh hp hs kK hz r hr;conv at hT=>whnf
  exact fV hT (aq.trans (aq.name 90003 100003 rfl rfl) (aq.keep))
end Go.Proofs.YtodofogcincleaaGreatDoor
