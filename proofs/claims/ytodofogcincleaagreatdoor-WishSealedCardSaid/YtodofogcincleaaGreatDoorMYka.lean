/-
  Merged texts.
-/
import Derived.Test.YtodofogcincleaaGreatDoorYkM
import Derived.Test.YtodofogcincleaaGreatDoorMYa
set_option linter.all false
set_option maxRecDepth 100000
namespace NQ
open Go Go.RowKit
theorem OL{w:World}{O O' :Nat->Prop}{e:TypeId}{sz:Nat}{rows:List (List D)}{v:Value}{xs:List Value}(h:w.ownsRow 0 e sz v rows.length xs)(hr:∀r∈rows,r.length=sz/\ ∀d∈r,d.one=true)
 (hc:∀i r j d,rows[i]? =some r->r[j]? =some d-> ∃u,xs[i*sz+j]? =some u/\Rep w O d u) (hO:∀b,O' b->O b) (hv:∀b,home v=some b-> ¬O' b):Rep w O' (.slice sz rows) v:=by
 rcases h.2 with ⟨rfl,h2⟩|⟨g,cap,cur,rfl,_,h3,h4,h5,h6,h7⟩
 . have:rows=[]:=List.length_eq_zero_iff.1 h2;subst this;exact .empty _ _ _
 . have hlt:g<w.heap.size:=(bj.1 h3).1;refine .slice sz rows g 0 _ cap (λi j=>xs.getD (i*sz+j) Go.undef) rfl (hv g rfl) hlt h4 hr (λi r j d hi hj=>?_) λi r j d hi hj=>?_
   . obtain⟨u,hu,_⟩:=hc i r j d hi hj;have hg:xs.getD (i*sz+j) Go.undef=u:=by rw[List.getD_eq_getElem?_getD,hu];rfl
     rw[hg,Nat.zero_add];simp only[World.cell?,h3];rw[<- h7,List.getElem?_take]at hu;split at hu
     . simpa using hu
     . cases hu
   . obtain⟨u,hu,hd⟩:=hc i r j d hi hj;have hg:xs.getD (i*sz+j) Go.undef=u:=by rw[List.getD_eq_getElem?_getD,hu];rfl
     rw[hg];exact hd.mono (aU.less λb hb=>hO b hb)
end NQ
namespace Go.Proofs.YtodofogcincleaaGreatDoor
open NQ Go NP Go.RowKit Go.Lib
abbrev DT(apex:Bs)(rows:List (List D))(r:List D)(fl f2:Bool):List (Nat×Blk):=[(56,.row 68 5 [r] f2),(100004,.box [.d (.str apex),.own 90020]),(90020,.row 68 5 rows fl)]
theorem IW(apex:Bs)(rows:List (List D))(i:Nat)(r:List D)(hi:i<=rows.length)(hbig:rows.length<=100000)(fl f2:Bool) :
 FnP cxW pv0 184 [.own 90020,.d (.int .i64 i),.own 56] (DT apex rows r fl f2)
  (some (.own 90020,[(100004,.box [.d (.str apex),.undef]),(90020,.row 68 5 (rows.take i++[r]++rows.drop i))])):=by
 refine⟨⟨_,Tryz.func184,by kernel_rfl,by kernel_rfl⟩,λO w σ vs hO hG hGO hdis hH hsz hrep=>?_⟩;obtain⟨xs,o1,o2,o3,o4,o5⟩:=hH.blk 90020 _ rfl;obtain⟨ys,p1,p2,p3,p4,p5⟩:=hH.blk 56 _ rfl;obtain⟨zb,zc,zt,z1,z2,z3,z4,z5⟩:=hH.blk 100004 _ rfl;have l1:live (DT apex rows r fl f2) 90020:=ax.2 ⟨_,rfl⟩;have l2:live (DT apex rows r fl f2) 56:=ax.2 ⟨_,rfl⟩;have l3:live (DT apex rows r fl f2) 100004:=ax.2 ⟨_,rfl⟩;have v0:vs.getD 0 Go.undef=σ 90020:=by have:=hrep 0 _ rfl;generalize vs.getD 0 Go.undef=u at this;cases this;rfl
 have v1:vs.getD 1 Go.undef= .int .i64 i:=by have:=hrep 1 _ rfl;exact this.int
 have v2:vs.getD 2 Go.undef=σ 56:=by have:=hrep 2 _ rfl;generalize vs.getD 2 Go.undef=u at this;cases this;rfl
 have hvs:vs= #[σ 90020,.int .i64 i,σ 56]:=by rw[PR hsz,v0,v1,v2]
 have hne:∀b,home (σ 90020)=some b->home (σ 56)≠some b:=λb h1 h2=>by
  have:=hH.inj 90020 56 b l1 l2 h1 h2;omega
 have hzb:home (σ 100004)=some zb:=by rw[z1];rfl
 have hne3:home (σ 90020)≠some zb:=λh=>by
  have:=hH.inj 90020 100004 zb l1 l3 h hzb;omega
 have hzlt:zb<w.heap.size:=(bj.1 z3).1
 let O2:Nat->Prop:=λb=>(O b\/home (σ 90020)=some b)\/b=zb
 have hO2:∀b,O2 b->NQ.Own O (live (DT apex rows r fl f2)) σ b:=λb hb=>by
  rcases hb with (hb|hb)|rfl
  . exact .inl hb
  . exact .inr ⟨_,l1,hb⟩
  . exact .inr ⟨_,l3,hzb⟩
 have hd:=OL (O' :=O2) p1 p4 p5 hO2 (λb hb h=>by
  rcases h with (h|h)|rfl
  . exact hdis b h ⟨_,l2,hb⟩
  . exact hne b h hb
  . have:=hH.inj 56 100004 _ l2 l3 hb hzb;omega)
 have hcalls := IV rows i r hi hbig O2 w (σ 90020) (σ 56) xs (fun b hb => by
     rcases hb with (hb|hb)|rfl
     . exact hO b hb
     . exact(cw.home (hH.blk 90020 _ rfl)).1 b hb |>.2
     . exact hzlt) hG (λg cells hg h=>by
     rcases h with (h|h)|rfl
     . exact(hGO g cells hg).1 h
     . exact(hGO g cells hg).2 ⟨_,l1,h⟩
     . exact(hGO _ cells hg).2 ⟨_,l3,hzb⟩) (λg hg=> .inl (.inr hg)) o1 o4 (λi r j d hi hj=>by
     obtain⟨u,hu,hd⟩:=o5 i r j d hi hj;exact⟨u,hu,hd.mono (aU.less hO2)⟩) hd (λB off n c e=>by
     rcases p1.2 with ⟨_,h⟩|⟨g,cap,cur,e',_,h3,_⟩
     . cases h
     . rw[e']at e;cases e;exact⟨⟨cur,_,h3⟩,λh=>hne _ h (by rw[e'];rfl)⟩)
 rw[hvs];refine hcalls.mono ?_;rintro en w' ⟨v',xs',rfl,q1,q2,q3,q4,q5,q6,q7,q8,q9⟩;refine⟨⟨q1,q2,q3,q4,λb hb=>?_⟩,?_⟩
 . by_cases hlt:b<w.heap.size
   . exact q5 b hlt λe=>hb (.inl ⟨90020,l1,e⟩)
   . exact absurd (.inr (by omega)) hb
 let σ' :Nat->Value:=λs=>if s=90020 then v' else σ s
 have e1:σ' 90020=v' :=if_pos rfl;have e3:σ' 100004=σ 100004:=if_neg (by omega);obtain⟨h',hh'⟩:∃h',h' =[(100004,Blk.box [.d (.str apex),.undef]),(90020,Blk.row 68 5 (rows.take i++[r]++rows.drop i))]:=⟨_,rfl⟩
 rw[<- hh'];have hf3:find h' 100004=some (Blk.box [.d (.str apex),.undef]):=by rw[hh'];rfl
 have hf1:find h' 90020=some (Blk.row 68 5 (rows.take i++[r]++rows.drop i)):=by rw[hh'];rfl
 have hfx:∀s b,find h' s=some b->s=100004\/s=90020:=λs b hb=>by
  have:=dP hb;rw[hh']at this;simp only[List.mem_cons,Prod.mk.injEq,List.not_mem_nil,or_false]at this;rcases this with h|h
  . exact .inl h.1
  . exact .inr h.1
 have hl' :∀s,live h' s->s=100004\/s=90020:=λs hs=>by
  obtain⟨b,hb⟩:=ax.1 hs;exact hfx s b hb
 have hk:aU w w' O2 (NQ.Own O (live h') σ'):=by
  refine⟨q4,λb hb hlt=>q5 b hlt λe=>hb (.inl (.inr e)),λb hb hlt ho=>?_⟩;rcases ho with ho|⟨s,hs,e⟩
  . exact hb (.inl (.inl ho))
  . rcases hl' s hs with rfl|rfl
    . rw[e3,hzb]at e;cases e;exact hb (.inr rfl)
    . rw[e1]at e;rcases q6 b e with e|e
      . exact hb (.inl (.inr e))
      . omega
 refine⟨v',σ',rfl,⟨λs b hb=>?_,λs s' b h1 h2 f1 f2=>?_⟩,λs hs hls=>?_,?_⟩
 . rcases hfx s b hb with rfl|rfl
   . rw[hf3]at hb;cases hb;refine⟨zb,zc,zt,by rw[e3,z1],.inl ⟨100004,l3,hzb⟩,(q5 zb hzlt hne3).trans z3,z4,λj c hj=>?_⟩;rcases j with _|_|j
     . cases hj;refine⟨.inl rfl,?_⟩;have hz:=(z5 0 _ rfl).2;cases hz with|d _ _ hz=>exact .d _ _ (hz.eL rfl)
     . cases hj;exact⟨.inr rfl,.undef _⟩
     . simp at hj
   . rw[hf1]at hb;cases hb;refine⟨xs',by rw[e1];exact q7,λb hb=>?_,⟨by decide,λe=>by cases e⟩,q8,λa q j d ha hj=>?_⟩
     . rw[e1]at hb;rcases q6 b hb with e|e
       . exact .inl ⟨90020,l1,e⟩
       . exact .inr e
     . obtain⟨z,hz,hd⟩:=q9 a q j d ha hj;exact⟨z,hz,hd.mono hk⟩
 . rcases hl' s h1 with rfl|rfl <;> rcases hl' s' h2 with rfl|rfl
   . rfl
   . rw[e3,hzb]at f1;cases f1;rw[e1]at f2;rcases q6 _ f2 with e|e
     . exact absurd e hne3
     . omega
   . rw[e3,hzb]at f2;cases f2;rw[e1]at f1;rcases q6 _ f1 with e|e
     . exact absurd e hne3
     . omega
   . rfl
 . rcases hl' s hls with rfl|rfl
   . exact e3
   . simp[cg]at hs
 . have:=au.own (w:=w') (O:=O) (σ:=σ') 90020 (ax.2 ⟨_,hf1⟩);rw[e1]at this;exact this
end Go.Proofs.YtodofogcincleaaGreatDoor
namespace NQ
open Go
def App(X:St->Prop)(s:St):Prop:=X s
theorem rV{α:Type}{G:Prop}{P:α->Prop}{canon:α->St}{X:St->Prop}(h1:(∀a,P a->App X (canon a))->G)(h2:∀a,P a->App X (canon a)):G:=h1 h2
theorem mB{cx:Cx}{fre:List Nat}{st st1:St}{X:St->Prop}(hw:ah cx fre st st1)(h:App X st1):∃st',ah cx fre st st' /\X st' :=⟨st1,hw,h⟩
end NQ
namespace NP
open NQ Go
def Jf(l:List Signed)(x:Signed)(h:Nat):Bool:=match l[h]? with|some y=>decide (vf y x<0)|none=>false
def sM(l:List Signed)(x:Signed)(h:Nat):Bool:=match l[h]? with|some y=>vf y x==0|none=>false
def je(l:List Signed)(x:Signed):Nat->Nat->Nat->Nat
 |0,i,_=>i
 |f+1,i,j=>if i<j then(if Jf l x ((i+j) / 2)=true then je l x f ((i+j) / 2+1) j else je l x f i ((i+j) / 2))else i
def bsW(l:List Signed)(x:Signed):Nat:=je l x (l.length+1) 0 l.length
theorem qx(l:List Signed)(x:Signed):∀(f f' i j:Nat),j-i<=f->j-i<=f' ->je l x f i j=je l x f' i j
 |0,0,_,_,_,_=>rfl
 |0,f' +1,i,j,h,_=>by rw[je,je,if_neg (by omega)]
 |f+1,0,i,j,_,h=>by rw[je,je,if_neg (by omega)]
 |f+1,f' +1,i,j,h,h' =>by
  rw[je,je];split
  . split
    . exact qx l x f f' _ _ (by omega) (by omega)
    . exact qx l x f f' _ _ (by omega) (by omega)
  . rfl
theorem KF(l:List Signed)(x:Signed){i j:Nat}(f:Nat)(hf:j-i<=f)(h:i<j):je l x f i j=if Jf l x ((i+j) / 2)=true then je l x f ((i+j) / 2+1) j else je l x f i ((i+j) / 2):=by
 obtain⟨f,rfl⟩:∃g,f=g+1:=⟨f-1,by omega⟩
 rw[je,if_pos h];split
 . exact qx l x _ _ _ _ (by omega) (by omega)
 . exact qx l x _ _ _ _ (by omega) (by omega)
theorem Na(l:List Signed)(x:Signed)(i f:Nat):je l x f i i=i:=by
 cases f with
 |zero=>rfl
 |succ f=>rw[je,if_neg (by omega)]
theorem Ac(l:List Signed)(x:Signed):∀(f i j:Nat),i<=j->je l x f i j<=j
 |0,i,j,h=>h
 |f+1,i,j,h=>by
  rw[je];split
  . split
    . exact Ac l x f _ _ (by omega)
    . exact Nat.le_trans (Ac l x f _ _ (by omega)) (by omega)
  . exact h
theorem KG(l:List Signed)(x:Signed):bsW l x<=l.length:=Ac l x _ _ _ (Nat.zero_le _)
def dN(z:aB)(s:Bs)(kind life:Int)(data:List Datum):Signed:=⟨⟨s,kind,if (wfR z s kind).2=true then(wfR z s kind).1.life else life,data⟩,[]⟩
def bo(z:aB)(s:Bs)(kind life:Int)(data:List Datum):aB :=
 ⟨z.apex,if sM z.sets (dN z s kind life data) (bsW z.sets (dN z s kind life data))=true then z.sets.set (bsW z.sets (dN z s kind life data)) (dN z s kind life data)
  else z.sets.take (bsW z.sets (dN z s kind life data))++[dN z s kind life data]++z.sets.drop (bsW z.sets (dN z s kind life data))⟩
end NP
namespace Go.Proofs.YtodofogcincleaaGreatDoor
open NQ Go NP Go.RowKit
theorem Sy(l:List Signed)(x:Signed)(hl:l.length<=100000) :
 NQ.Fn cx 182 [.slice 5 (l.map ak),.agg (ak x),.fn 183 [] []] (.tuple [.d (.int .i64 (bsW l x)),.d (.bool (sM l x (bsW l x)))]) []:=by
 refine aM aV mixed Tryz.func182 (by kernel_rfl) rfl (ag rfl) ?_;conv=>whnf
 refine⟨Nat×Nat,λq=>⟨[(0,.d (.slice 5 (l.map ak))),(2,.d (.fn 183 [] [])),(4,.ptr 4 0),(8,.d (.int .i64 ((l.map ak).length:Int))),(9,.d (.int .i64 q.1)),(10,.d (.int .i64 q.2))],[(4,.box ((ak x).map .d))]⟩,
  λq=>q.1<=q.2/\q.2<=l.length/\je l x (l.length+1) q.1 q.2=bsW l x,λq=>q.2-q.1,⟨(0,l.length),⟨Nat.zero_le _,Nat.le_refl _,rfl⟩,aF.keep ⟨ae,ae,ae,ae,ae,⟨(by show AV.d (D.int _ _)=_;simp),rfl⟩,trivial⟩ ⟨ae,trivial⟩⟩,λ⟨i,j⟩ ⟨h2,h3,h4⟩=>?_⟩
 dsimp only at h2 h3 h4 ⊢
 conv=>whnf
 refine af (λh=>?_) (λh=>?_) <;> (rw[h];conv=>whnf)
 . have hij:i<j:=by simp at h;omega
   rw[KF l x _ (by omega) hij]at h4
   (refine⟨(by kernel_rfl:bC _ _=true),?_⟩;conv=>whnf)
   rw[LH (by omega)];obtain⟨s,hs⟩:∃s,l[(i+j) / 2]? =some s:=⟨_,aj (by omega)⟩
   have hlt:Jf l x ((i+j) / 2)=decide (vf s x<0):=by unfold Jf;rw[hs]
   rw[hlt]at h4;refine⟨aw _,ak s,aD hs,?_⟩
   conv=>whnf
   (refine⟨_,_,yL s x,?_⟩;conv=>whnf)
   refine af (λh=>?_) (λh=>?_) <;> (rw[h];conv=>whnf)
   . rw[if_pos h]at h4;exact⟨((i+j) / 2+1,j),⟨by dsimp only;omega,h3,h4⟩,by dsimp only;omega,aF.keep ⟨ae,ae,ae,ae,⟨an (by omega),rfl⟩,ae,trivial⟩ ⟨ae,trivial⟩⟩
   . rw[if_neg (by rw[h];decide)]at h4;exact⟨(i,(i+j) / 2),⟨by dsimp only;omega,by dsimp only;omega,h4⟩,by dsimp only;omega,aF.keep ⟨ae,ae,ae,ae,ae,ae,trivial⟩ ⟨ae,trivial⟩⟩
 . obtain rfl:i=j:=by simp at h;omega
   rw[Na]at h4;clear h;rw[<- h4]
   (refine⟨(by kernel_rfl:bC _ _=true),?_⟩;conv=>whnf)
   refine af (λh=>?_) (λh=>?_) <;> (rw[h];conv=>whnf)
   . have hlt:i<l.length:=by simp at h;omega
     obtain⟨s,hs⟩:∃s,l[i]? =some s:=⟨_,aj hlt⟩
     refine⟨aw _,ak s,aD hs,?_⟩
     conv=>whnf
     (refine⟨_,_,yL s x,?_⟩;conv=>whnf)
     refine al rfl ?_;show AV.tuple [AV.d (.int .i64 i),AV.d (.bool _)]=_
     simp[sM,hs]
   . refine al rfl ?_;show AV.tuple [AV.d (.int .i64 i),AV.d (.bool _)]=_
     have:l[i]? =none:=by simp at h;simp;omega
     simp[sM,this]
noncomputable def cxB:Cx:={cx with chg:=fY [(110,9),(184,9)]}
theorem tyB:ba cxB:=aV
theorem RR:cxB.P.follows .mixedOrders=true:=mixed
abbrev eS(z:aB):List (Nat×Blk):=[(100004,.box [.d (.str z.apex),.own 90020]),(90020,rN z.sets)]
theorem Kk(z:aB)(s:Bs)(kind:Int)(hn:z.sets.length<=100000):FnP cxW pv0 110 [.agg [.d (.str z.apex),.own 90020],.d (.str s),.d (.int .i64 kind)] (eS z) (some (.tuple [.agg ((bJ (wfR z s kind).1).map .d),.d (.bool (wfR z s kind).2)],eS z)):=by
 refine aT [] (fun|_=>[]) tyW sf Tryz.func110 (by kernel_rfl) rfl (ag rfl) (ag rfl) rfl ?_
 conv=>whnf
 (refine⟨_,xz z.sets (isF s kind) _ _ hn (λx _=>vu x s kind),rfl,?_⟩;conv=>whnf)
 have hfi:=kL (isF s kind) z.sets;have hfr:wfR z s kind=match z.sets.find? (isF s kind)with|some x=>(x.set,true)|none=>(oE,false):=rfl
 cases hi:z.sets.findIdx? (isF s kind)with
 |none =>
  rw[hi]at hfi;rw[<- hfi]at hfr
  conv=>whnf
  exact bF rfl (by rw[hfr];rfl) (by rw[hfr];rfl)
 |some k =>
  rw[hi]at hfi;obtain⟨hlt,_⟩:=List.findIdx?_eq_some_iff_getElem.1 hi;obtain⟨x,hx⟩:∃x,z.sets[k]? =some x:=⟨_,aj hlt⟩
  rw[<- hfi]at hfr;simp only[hx]at hfr
  conv=>whnf
  refine⟨aw k,by(show k<_;rw[ao];exact hlt),?_⟩
  conv=>whnf
  refine⟨ak x,aD hx,?_⟩
  conv=>whnf
  exact bF rfl (by rw[hfr];rfl) (by rw[hfr];rfl)
theorem dW(z:aB)(s:Bs)(kind life:Int)(data:List Datum)(hn:z.sets.length<=100000)(hd:data.length<=100000) :
 FnP cxB pv0 181 [.ptr 100004 0,.d (.ptr [.str s]),.d (.ptr [.int .i64 kind]),.d (.ptr [.int .i64 life]),.d (.ptr [.slice 3 (data.map aI)])] (eS z) (some (.tuple [],eS (bo z s kind life data))):=by
 refine aT [] (fun|1=>[33333]|2=>[55555]|4=>[55555]|7=>[33333]|_=>[]) tyB RR Tryz.func181 (by kernel_rfl) rfl (ag rfl) (ag rfl) rfl ?_
 conv=>whnf
 (refine⟨(by kernel_rfl:bC _ _=true),?_⟩;conv=>whnf)
 (refine⟨_,_,mS (data.map aI) (by simpa using hd),?_⟩;conv=>whnf)
 (refine⟨(by kernel_rfl:bA _=true),?_⟩;conv=>whnf)
 have hF:=bx (cx' :=cxB) rfl rfl (Kk z s kind hn);apply rV (α:=Unit) (P:=λ_=>True) (canon:=λ_=>⟨[(0,.ptr 100004 0),(1,.d (.ptr [.str s])),(2,.d (.ptr [.int .i64 kind])),(3,.d (.ptr [.int .i64 life])),(4,.d (.ptr [.slice 3 (data.map aI)])),(6,.ptr 6 0),(7,.ptr 7 0),(8,.d (.bool (wfR z s kind).2))],
  [(100004,.box [.d (.str z.apex),.own 90020]),(90020,rN z.sets),(6,.box [.d (.str s),.d (.int .i64 kind),.d (.int .i64 life),.d (.slice 3 (data.map aI)),.nil 6]),(7,.box ((bJ (wfR z s kind).1).map .d))]⟩)
 . intro rest
   repeat' (first
    |(refine⟨[6,7],_,hF,⟨rfl,rfl,rfl⟩,?_⟩;(conv=>whnf);refine aA ?_;(conv=>whnf))
    |exact mB (ah.keep) (rest () trivial)
    |(refine And.intro (by kernel_rfl) ?_;conv=>whnf)
    |(refine And.intro ?_ ?_ <;> (conv=>whnf)))
 rintro _ _;unfold App
 conv=>whnf
 apply rV (α:=Unit) (P:=λ_=>True) (canon:=λ_=>⟨[(0,.ptr 100004 0),(6,.ptr 6 0)],
  [(100004,.box [.d (.str z.apex),.own 90020]),(90020,rN z.sets),(6,.box [.d (.str s),.d (.int .i64 kind),.d (.int .i64 (dN z s kind life data).set.life),.d (.slice 3 (data.map aI)),.nil 6])]⟩)
 . intro rest;have hx:(dN z s kind life data).set.life=if (wfR z s kind).2=true then(wfR z s kind).1.life else life:=rfl
   refine af (λh1=>?_) (λh1=>?_) <;> (rw[h1];conv=>whnf)
   . rw[if_pos h1]at hx;rw[hx]at rest;exact mB (ah.keep) (rest () trivial)
   . rw[if_neg (by rw[h1];decide)]at hx;rw[hx]at rest;exact mB (ah.keep) (rest () trivial)
 rintro _ _;unfold App
 conv=>whnf
 have hbz:bo z s kind life data=⟨z.apex,if sM z.sets (dN z s kind life data) (bsW z.sets (dN z s kind life data))=true then z.sets.set (bsW z.sets (dN z s kind life data)) (dN z s kind life data)
  else z.sets.take (bsW z.sets (dN z s kind life data))++[dN z s kind life data]++z.sets.drop (bsW z.sets (dN z s kind life data))⟩:=rfl
 have hX:ak (dN z s kind life data)=[.str s,.int .i64 kind,.int .i64 (dN z s kind life data).set.life,.slice 3 (data.map aI),.slice 6 []]:=rfl;have hle:=KG z.sets (dN z s kind life data);have hb:=Sy z.sets (dN z s kind life data) hn;rw[hX]at hb;generalize dN z s kind life data=X at hbz hX hle hb ⊢;rw[hbz]
 (refine⟨(by kernel_rfl:bC _ _=true),?_⟩;conv=>whnf)
 (refine⟨_,hb,by kernel_rfl,?_⟩;conv=>whnf)
 refine af (λh1=>?_) (λh1=>?_) <;> (rw[h1];conv=>whnf)
 . have hlt:bsW z.sets X<z.sets.length:=by
    unfold sM at h1;split at h1
    . rename_i y hy;exact(aq.1 hy).1
    . cases h1
   rw[if_pos rfl]
   (refine⟨(by kernel_rfl:bC _ _=true),?_⟩;conv=>whnf)
   refine⟨aw _,by(show bsW z.sets X<_;rw[ao];exact hlt),?_⟩
   conv=>whnf
   obtain⟨y,hy⟩:∃y,z.sets[bsW z.sets X]? =some y:=⟨_,aj hlt⟩
   refine⟨ak y,aD hy,?_⟩
   conv=>whnf
   have hset:(z.sets.set (bsW z.sets X) X).map ak=(z.sets.map ak).set (bsW z.sets X) (ak X):=List.map_set;rw[hX]at hset;exact .inl ⟨[],ah.keep trivial ⟨⟨rfl,rfl⟩,⟨congrArg (λr=>some (Blk.row 68 5 r)) hset.symm,rfl⟩,trivial⟩,rfl⟩
 . rw[if_neg (by decide)];have hI:=λfl f2=>bx (cx' :=cxB) rfl rfl (IW z.apex (z.sets.map ak) (bsW z.sets X) (ak X) (by simpa using hle) (by simpa using hn) fl f2)
   rw[hX]at hI
   (refine⟨(by kernel_rfl:bA _=true),?_⟩;conv=>whnf)
   repeat' (first
    |(refine⟨[6],_,hI _ _,⟨rfl,rfl,rfl⟩,?_⟩;(conv=>whnf);refine aA ?_;(conv=>whnf))
    |(refine And.intro (by kernel_rfl) ?_;conv=>whnf)
    |(refine And.intro ?_ ?_ <;> (conv=>whnf)))
   have hins:(z.sets.take (bsW z.sets X)++[X]++z.sets.drop (bsW z.sets X)).map ak=(z.sets.map ak).take (bsW z.sets X)++[ak X]++(z.sets.map ak).drop (bsW z.sets X):=by
    rw[List.map_append,List.map_append,List.map_take,List.map_drop];rfl
   rw[hX]at hins
   all_goals exact .inl ⟨[],ah.keep trivial ⟨⟨rfl,rfl⟩,⟨congrArg (λr=>some (Blk.row 68 5 r)) hins.symm,rfl⟩,trivial⟩,rfl⟩
end Go.Proofs.YtodofogcincleaaGreatDoor
namespace NQ
open Go Go.RowKit
theorem Qo{cx:Cx}{fre:List Nat}{st:St}(s:Nat)(cs cs' :List AV)(hf:find st.heap s=some (.box cs))(hc:∀(j:Nat) c,cs'[j]? =some c->c= .undef\/cs[j]? =some c)(hl:cs'.length=cs.length:=by rfl):ah cx fre st ⟨st.slots,(s,.box cs')::st.heap⟩:=by
 refine(aF.JT s (.box cs) (.box cs') hf λw F O L σ h=>?_).toP;obtain⟨b,cur,t,h1,h2,h3,h4,h5⟩:=h;refine⟨b,cur,t,h1,h2,h3,h4.trans hl.symm,λj c hj=>?_⟩;rcases hc j c hj with rfl|hj
 . exact⟨.inr rfl,.undef _⟩
 . exact h5 j c hj
end NQ
namespace Go.Proofs.YtodofogcincleaaGreatDoor
open NQ Go NP Go.RowKit
theorem Mi(s:ck)(x:aY):NQ.Fn cx 133 [.agg (bJ s),.ptr (aS x)] (.d (.bool (decide (s.type=8)|| !(bl s.name x.name).1))) []:=by
 refine aM aV mixed Tryz.func133 (by kernel_rfl) rfl (ag rfl) ?_;conv=>whnf
 repeat' (first|(refine⟨_,_,mO s.name x.name,?_⟩;conv=>whnf)|(refine af (λh=>?_) (λh=>?_) <;> (rw[h];conv=>whnf))|fail)
 all_goals (refine al rfl ?_;show AV.d (D.bool _)=AV.d (D.bool _);congr 2;(try simp_all))
theorem Mj(s:ck)(x:aY):NQ.Fn cx 135 [.agg (bJ s),.ptr (aS x)] (.d (.bool (bl s.name x.name).1)) []:=by
 refine aM aV mixed Tryz.func135 (by kernel_rfl) rfl (ag rfl) ?_;conv=>whnf
 (refine⟨_,_,mO s.name x.name,?_⟩;conv=>whnf)
 exact al rfl rfl
theorem Gw(s:Signed)(x:aY):NQ.Fn cx 197 [.agg (ak s),.ptr [.fn 133 [] [.ptr (aS x)]]] (.d (.bool (decide (s.set.type=8)|| !(bl s.set.name x.name).1))) []:=by
 refine aM aV mixed Tryz.func197 (by kernel_rfl) rfl (ag rfl) ?_;conv=>whnf
 (refine⟨_,_,Mi s.set x,?_⟩;conv=>whnf)
 exact al rfl rfl
theorem Gx(s:Signed)(x:aY):NQ.Fn cx 197 [.agg (ak s),.ptr [.fn 135 [] [.ptr (aS x)]]] (.d (.bool (bl s.set.name x.name).1)) []:=by
 refine aM aV mixed Tryz.func197 (by kernel_rfl) rfl (ag rfl) ?_;conv=>whnf
 (refine⟨_,_,Mj s.set x,?_⟩;conv=>whnf)
 exact al rfl rfl
theorem Qt(l:List Signed)(p:Signed->Bool)(x:D)(hn:l.length<=100000)(hf:∀s∈l,NQ.Fn cx 197 [.agg (ak s),x] (.d (.bool (p s))) []) :
 NQ.Fn cx 177 [.slice 5 (l.map ak),.fn 197 [] [x]] (.d (.int .i64 (match l.findIdx? p with|some k=>(k:Int)|none=> -1))) []:=by
 refine aM aV mixed Tryz.func177 (by kernel_rfl) rfl (ag rfl) ?_;conv=>whnf
 refine⟨Nat,λk=>⟨[(0,.d (.slice 5 (l.map ak))),(1,.d (.fn 197 [] [x])),(7,.d (.int .i64 ((l.map ak).length:Int))),(8,.d (.int .i64 k))],[]⟩,λk=>k<=l.length/\ ∀j y,j<k->l[j]? =some y->p y=false,λk=>l.length-k,
  ⟨0,⟨by omega,λj y h=>by omega⟩,aF.keep ⟨ae,ae,ae,ae,trivial⟩ trivial⟩,λk hk=>?_⟩
 obtain⟨hk,hall⟩:=hk
 conv=>whnf
 refine af (λh1=>?_) (λh1=>?_) <;> (rw[h1];conv=>whnf)
 . have hlt:k<l.length:=by simp at h1;omega
   obtain⟨s,hs⟩:∃s,l[k]? =some s:=⟨_,aj hlt⟩
   refine⟨aw k,ak s,aD hs,?_⟩
   conv=>whnf
   (refine⟨_,_,hf s (ar hs),?_⟩;conv=>whnf)
   refine af (λh2=>?_) (λh2=>?_) <;> (rw[h2];conv=>whnf)
   . refine al rfl ?_;have:l.findIdx? p=some k:=by
      rw[List.findIdx?_eq_some_iff_getElem];obtain⟨g1,g2⟩:=aq.1 hs;refine⟨g1,by rw[g2];exact h2,λj hj=>?_⟩;have:=hall j (l[j]) hj (aj (by omega));rw[this];decide
     rw[this];rfl
   . refine⟨k+1,⟨hlt,λj y hj hy=>?_⟩,by(show l.length-(k+1)<l.length-k;omega),aF.keep ⟨ae,ae,ae,⟨an (by omega),rfl⟩,trivial⟩ trivial⟩;rcases Nat.lt_succ_iff_lt_or_eq.1 hj with hj|rfl
     . exact hall j y hj hy
     . rw[hs]at hy;cases hy;exact h2
 . obtain rfl:k=l.length:=by simp at h1;omega
   refine al rfl ?_;have:l.findIdx? p=none:=by
    rw[List.findIdx?_eq_none_iff];intro x hx;obtain⟨i,hi⟩:=cd hx;exact hall i x (aq.1 hi).1 hi
   rw[this];rfl
noncomputable def cxX:Cx:={cx with chg:=fY [(196,9)]}
theorem tyX:ba cxX:=aV
theorem RW:cxX.P.follows .mixedOrders=true:=mixed
noncomputable def Nr:Cx:={cx with bld:=[777001]}
theorem SY:ba Nr:=aV
theorem QG:Nr.P.follows .mixedOrders=true:=mixed
theorem Fz(z:aB)(p:Signed->Bool)(F:FuncId)(y:aY)(hn:z.sets.length<=100000)(hf:∀s,NQ.Fn cx 197 [.agg (ak s),.ptr [.fn F [] [.ptr (aS y)]]] (.d (.bool (p s))) []) :
 FnP cxW pv0 196 [.own 90020,.fn 197 [] [.d (.ptr [.fn F [] [.ptr (aS y)]])]] (eS z)
  (some (.own 90020,[(100004,.box [.d (.str z.apex),.undef]),(90020,rN (z.sets.filter λs=> !p s))])):=by
 refine bx (cx:=Nr) rfl rfl ?_;refine aT [] (fun|11=>[33333]|12=>[33333]|_=>[]) SY QG Tryz.func196 (by kernel_rfl) rfl (ag rfl) (ag rfl) rfl ?_
 conv=>whnf
 (refine⟨_,Qt z.sets p (.ptr [.fn F [] [.ptr (aS y)]]) hn (λs _=>hf s),by kernel_rfl,?_⟩;conv=>whnf)
 cases hi:z.sets.findIdx? p with
 |none =>
  have hall:(z.sets.filter λs=> !p s)=z.sets:=by
   rw[List.filter_eq_self];intro s hs;have:=List.findIdx?_eq_none_iff.1 hi s hs;rw[this];rfl
  rw[hall]
  conv=>whnf
  refine fo (Qo 100004 [.d (.str z.apex),.own 90020] [.d (.str z.apex),.undef] rfl (λj c h=>?_)) rfl rfl rfl;rcases j with _|_|j
  . exact .inr h
  . cases h;exact .inl rfl
  . simp at h
 |some k =>
  obtain⟨hk,hpk,hbef⟩:=List.findIdx?_eq_some_iff_getElem.1 hi;have h1:((k:Int)== -1)=false:=by simp
  rw[show((match (some k:Option Nat)with|some k=>(k:Int)|none=> -1)== -1)=false from h1]
  conv=>whnf
  have hst:(z.sets.take (k+1)).filter (λs=> !p s)=z.sets.take k:=by
   rw[List.take_add_one,aj hk,List.filter_append];have e1:(z.sets.take k).filter (λs=> !p s)=z.sets.take k:=by
    rw[List.filter_eq_self];intro s hs;obtain⟨j,hj⟩:=cd hs;rw[List.getElem?_take]at hj;split at hj
    . rename_i hjk;obtain⟨g1,g2⟩:=aq.1 hj;have:=hbef j hjk;rw[g2]at this;simpa using this
    . cases hj
   rw[e1];simp[hpk]
  refine⟨Nat×Nat×List Signed,λq=>⟨[(0,.own 90020),(1,.fn 197 [] [.d (.ptr [.fn F [] [.ptr (aS y)]])]),(5,.d (.int .i64 q.1)),(6,.d (.int .i64 q.2.1))],[(100004,.box [.d (.str z.apex),.own 90020]),(90020,rN q.2.2)]⟩,
   λq=>q.1<q.2.1/\q.2.1<=z.sets.length/\q.2.2.length=z.sets.length/\q.2.2.take q.1=(z.sets.take q.2.1).filter (λs=> !p s)/\q.2.2.drop q.2.1=z.sets.drop q.2.1,λq=>z.sets.length-q.2.1,
   ⟨(k,k+1,z.sets),⟨by dsimp only;omega,hk,rfl,hst.symm,rfl⟩,ah.keep ⟨ae,ae,ae,⟨an (by omega),rfl⟩,trivial⟩⟩,?_⟩
  rintro⟨i,j,R⟩ ⟨hij,hj,hR,hT,hD⟩;dsimp only at hij hj hR hT hD
  conv=>whnf
  refine af (λh2=>?_) (λh2=>?_) <;> (rw[h2];conv=>whnf)
  . have hlt:j<z.sets.length:=by simp at h2;omega
    obtain⟨s,hs⟩:∃s,z.sets[j]? =some s:=⟨_,aj hlt⟩
    have hRj:R[j]? =some s:=by
     have:=congrArg (λl=>l[0]?) hD;simpa [List.getElem?_drop,hs] using this
    have htk:(z.sets.take (j+1)).filter (λs=> !p s)=(z.sets.take j).filter (λs=> !p s)++(if p s=true then[]else[s]):=by
     rw[bU hs,List.filter_append];cases hp:p s <;> simp[hp]
    have hdr:R.drop (j+1)=z.sets.drop (j+1):=by
     rw[<- List.drop_drop, <- List.drop_drop,hD]
    refine⟨aw j,by(show j<_;rw[ao,hR];exact hlt),?_⟩
    conv=>whnf
    refine⟨ak s,aD hRj,?_⟩
    conv=>whnf
    (refine⟨_,_,hf s,?_⟩;conv=>whnf)
    refine af (λh3=>?_) (λh3=>?_) <;> (rw[h3];conv=>whnf)
    . have hp:p s=false:=by simpa using h3
      refine⟨aw i,by(show i<_;rw[ao,hR];omega),?_⟩
      conv=>whnf
      obtain⟨y,hy⟩:∃y,R[i]? =some y:=⟨_,aj (by omega)⟩
      refine⟨ak y,aD hy,?_⟩
      conv=>whnf
      refine⟨(i+1,j+1,R.set i s),⟨by dsimp only;omega,hlt,by(show(R.set i s).length=_;rw[List.length_set,hR]),?_,?_⟩,by(show z.sets.length-(j+1)<z.sets.length-j;omega),ah.keep ⟨ae,ae,⟨an (k:=i) (by omega),rfl⟩,⟨an (k:=j) (by omega),rfl⟩,trivial⟩ ⟨ae,⟨congrArg (λr=>some (Blk.row 68 5 r)) (List.map_set (f:=ak) (l:=R) (i:=i) (a:=s)).symm,rfl⟩,trivial⟩⟩
      . show(R.set i s).take (i+1)=_
        rw[htk,if_neg (by rw[hp];decide), <- hT,List.take_add_one,List.getElem?_set_self (by omega),List.take_set_of_le (Nat.le_refl _)];rfl
      . show(R.set i s).drop (j+1)=_
        rw[List.drop_set_of_lt (by omega),hdr]
    . have hp:p s=true:=by simpa using h3
      refine⟨(i,j+1,R),⟨by dsimp only;omega,hlt,hR,?_,hdr⟩,by(show z.sets.length-(j+1)<z.sets.length-j;omega),ah.keep ⟨ae,ae,ae,⟨an (k:=j) (by omega),rfl⟩,trivial⟩⟩;show R.take i=_
      rw[htk,if_pos hp,List.append_nil];exact hT
  . obtain rfl:j=z.sets.length:=by simp at h2;omega
    rw[List.take_length]at hT;refine⟨aw i,by(show i<_;rw[ao,hR];omega),?_⟩
    conv=>whnf
    refine⟨by(show i<_;rw[ao,hR];omega),?_⟩
    conv=>whnf
    refine⟨aw i,by(show i<_;rw[List.length_append,List.length_take,List.length_replicate,ao,hR];omega),?_⟩
    conv=>whnf
    have hres:∀y:List D,((R.map ak).take i++List.replicate ((R.map ak).length-i) y).take i=(z.sets.filter λs=> !p s).map ak:=λy=>by
     rw[List.take_append_of_le_length (by rw[List.length_take,ao,hR];omega),List.take_take,Nat.min_self, <- List.map_take,hT]
    refine fo (ah.keep (sl:=[(4,.own 90020)]) (h:=[(100004,.box [.d (.str z.apex),.undef]),(90020,rN (z.sets.filter λs=> !p s))]) (by repeat' (first|exact trivial|refine⟨⟨rfl,rfl⟩,?_⟩)) ⟨⟨rfl,rfl⟩,⟨congrArg (λr=>some (Blk.row 68 5 r)) (hres _),rfl⟩,trivial⟩) rfl rfl rfl
theorem vv(z:aB)(p:Signed->Bool)(F:FuncId)(y:aY)(hn:z.sets.length<=100000)(hf:∀s,NQ.Fn cx 197 [.agg (ak s),.ptr [.fn F [] [.ptr (aS y)]]] (.d (.bool (p s))) []) :
 FnP cxX pv0 195 [.ptr 100004 0,.d (.ptr [.fn F [] [.ptr (aS y)]])] (eS z) (some (.tuple [],eS ⟨z.apex,z.sets.filter λs=> !p s⟩)):=by
 refine aT [] (fun|0=>[33333]|_=>[]) tyX RW Tryz.func195 (by kernel_rfl) rfl (ag rfl) (ag rfl) rfl ?_
 conv=>whnf
 have hD:=bx (cx' :=cxX) rfl rfl (Fz z p F y hn hf);refine⟨[],_,hD,⟨rfl,rfl,rfl⟩,?_⟩
 conv=>whnf
 refine aA ?_
 conv=>whnf
 exact .inl ⟨[],ah.keep trivial,rfl⟩
theorem It(l:List Signed)(hn:l.length<=100000):FnP cxW pv0 193 [.d (.slice 5 (l.map ak))] [] (some (.own 90020,[(90020,rN l)])):=by
 refine aT [] (fun|_=>[]) tyW sf Tryz.func193 (by kernel_rfl) rfl (ag rfl) (ag rfl) rfl ?_
 conv=>whnf
 refine⟨λh=>?_,?_⟩
 . have hl:l=[]:=by
    have:=List.isEmpty_iff.1 h;simpa using this
   subst hl
   conv=>whnf
   exact fo (ah.kj 2 90020 5 68 5 rfl rfl (by decide)) rfl rfl rfl
 . conv=>whnf
   refine⟨by(show 0+(l.map ak).length<=_;rw[ao];omega),by(show(0+(l.map ak).length)*80<=_;rw[ao];omega),?_⟩
   conv=>whnf
   exact fo (ah.name 5 90020 rfl rfl) rfl rfl rfl
noncomputable def Dq:Cx:={cx with chg:=fY [(193,9)]}
theorem SV:ba Dq:=aV
theorem QE:Dq.P.follows .mixedOrders=true:=mixed
theorem jt(z:aB)(hn:z.sets.length<=100000)(hs:∀s∈z.sets,s.set.data.length<=100000/\s.sigs.length<=100000) :
 FnP Dq pv0 131 [.agg ((aG z).map .d)] [] (some (.agg [.d (.str z.apex),.own 90020],[(90020,rN z.sets)])):=by
 refine aT [] (fun|1=>[33333]|6=>[55555]|_=>[]) SV QE Tryz.func131 (by kernel_rfl) rfl (ag rfl) (ag rfl) rfl ?_
 conv=>whnf
 have hC:=bx (cx' :=Dq) rfl rfl (It z.sets hn);refine⟨[1,2],_,hC,⟨rfl,rfl,rfl⟩,?_⟩
 conv=>whnf
 refine aA ?_
 conv=>whnf
 refine⟨Nat,λk=>⟨[(1,.ptr 1 0),(2,.ptr 2 0),(10,.d (.int .i64 ((z.sets.map ak).length:Int))),(11,.d (.int .i64 k))],[(1,.box [.d (.str z.apex),.own 90020]),(2,.box [.d (.str []),.nil 5]),(90020,rN z.sets)]⟩,
  λk=>k<=z.sets.length,λk=>z.sets.length-k,⟨0,Nat.zero_le _,ah.keep⟩,λk hk=>?_⟩
 conv=>whnf
 refine af (λh1=>?_) (λh1=>?_) <;> (rw[h1];conv=>whnf)
 . have hlt:k<z.sets.length:=by simp at h1;omega
   obtain⟨s,hsk⟩:∃s,z.sets[k]? =some s:=⟨_,aj hlt⟩
   have hsm:=hs s (ar hsk);have hsame:(z.sets.map ak).set k (ak s)=z.sets.map ak:=by
    rw[<- List.map_set]
    congr 1
    obtain⟨g1,g2⟩:=aq.1 hsk;rw[<- g2];exact List.set_getElem_self g1
   (refine⟨(by kernel_rfl:bC _ _=true),?_⟩;conv=>whnf)
   repeat' (first
    |(refine⟨aw k,by(show k<_;rw[ao];exact hlt),?_⟩;conv=>whnf)
    |(refine⟨ak s,aD hsk,?_⟩;conv=>whnf)
    |(refine⟨_,_,mS (s.set.data.map aI) (by simpa using hsm.1),?_⟩;conv=>whnf))
   refine⟨_,ah.keep (sl:=[(1,.ptr 1 0),(2,.ptr 2 0),(3,.d (.int .i64 k)),(10,.d (.int .i64 ((z.sets.map ak).length:Int))),(11,.d (.int .i64 k))]) (h:=[(1,.box [.d (.str z.apex),.own 90020]),(2,.box [.d (.str []),.nil 5]),(90020,rN z.sets)]) (by repeat' (first|exact trivial|refine⟨⟨rfl,rfl⟩,?_⟩)) ⟨⟨rfl,rfl⟩,⟨rfl,rfl⟩,⟨congrArg (λr=>some (Blk.row 68 5 r)) hsame,rfl⟩,trivial⟩,?_⟩
   conv=>whnf
   (refine⟨(by kernel_rfl:bC _ _=true),?_⟩;conv=>whnf)
   repeat' (first
    |(refine⟨aw k,by(show k<_;rw[ao];exact hlt),?_⟩;conv=>whnf)
    |(refine⟨ak s,aD hsk,?_⟩;conv=>whnf)
    |(refine⟨_,_,uc (s.sigs.map lH) (by simpa using hsm.2),?_⟩;conv=>whnf))
   exact⟨k+1,hlt,by(show z.sets.length-(k+1)<z.sets.length-k;omega),ah.keep ⟨ae,ae,ae,⟨an (k:=k) (by omega),rfl⟩,trivial⟩ ⟨ae,ae,⟨congrArg (λr=>some (Blk.row 68 5 r)) hsame,rfl⟩,trivial⟩⟩
 . exact bF rfl rfl rfl
end Go.Proofs.YtodofogcincleaaGreatDoor
namespace NP
open NQ Go
def addrAt(w:aL)(n:Int):Int:=match w.hosts[n.toNat]? with|some h=>h.addr|none=>0
def jy(w:aL)(life:Int)(cut:Bs)(z:aB)(n:Int):aB:=if (bl (nameAt w n) cut).1=true then bo z (nameAt w n) 1 life [⟨[],addrAt w n,0⟩]else z
def cn(w:aL)(life:Int)(cut:Bs)(hosts:List Int)(z:aB):aB:=hosts.foldl (jy w life cut) z
theorem fX(z:aB)(s:Bs)(kind life:Int)(data:List Datum):(bo z s kind life data).sets.length<=z.sets.length+1:=by
 unfold bo;dsimp only;split
 . rw[List.length_set];omega
 . rw[List.length_append,List.length_append,List.length_take,List.length_drop];have:=KG z.sets (dN z s kind life data);simp;omega
theorem ot(w:aL)(life:Int)(cut:Bs):∀(l:List Int) (z:aB),(cn w life cut l z).sets.length<=z.sets.length+l.length
 |[],z=>Nat.le_refl _
 |n::t,z=>by
  have:=ot w life cut t (jy w life cut z n);have h2:(jy w life cut z n).sets.length<=z.sets.length+1:=by
   unfold jy;split
   . exact fX _ _ _ _ _
   . omega
  show(cn w life cut t (jy w life cut z n)).sets.length<=_
  simp;omega
end NP
namespace Go.Proofs.YtodofogcincleaaGreatDoor
open NQ Go NP Go.RowKit
abbrev ku(s:Bs)(kind life:Int)(data:List Datum):AV:= .fn 181 [] [.d (.ptr [.str s]),.d (.ptr [.int .i64 kind]),.d (.ptr [.int .i64 life]),.d (.ptr [.slice 3 (data.map aI)])]
theorem dH(s:Bs)(kind life:Int)(data:List Datum):FnP cxW pv0 116 [.d (.str s),.d (.int .i64 kind),.d (.int .i64 life),.d (.slice 3 (data.map aI))] [] (some (ku s kind life data,[])):=by
 refine aT [] (fun|_=>[]) tyW sf Tryz.func116 (by kernel_rfl) rfl (ag rfl) (ag rfl) rfl ?_
 conv=>whnf
 exact EE [4,5,6,7] rfl rfl rfl
def bg(o:aX):List (Nat×Blk):=[(100034,.box (Ox true o)),(90032,.smap (gn o.got)),(90040,.row 45 3 (o.puts.map aC)),(90041,.row 40 1 (o.stages.map bV))]
abbrev NR(o:aX)(z:aB):List (Nat×Blk):=eS z++(100003,.box [.ptr 100034 0])::bg o
noncomputable def cxU:Cx:={cx with chg:=fY [(116,9),(181,9)],bld:=[35]}
theorem tyU:ba cxU:=aV
theorem RU:cxU.P.follows .mixedOrders=true:=mixed
set_option maxHeartbeats 2000000 in
theorem qH(o:aX)(cut:Bs)(l:List Int)(z:aB)(hh:∀n∈l,bk o.w n=true)(hl:l.length<=1000)(hn:z.sets.length+l.length<=100000) :
 FnP cxU pv0 185 [.ptr 100004 0,.d (.ptr [.slice 1 (l.map cK)]),.ptr 100003 0,.d (.ptr [.str cut])] (NR o z) (some (.tuple [],NR o (cn o.w o.life cut l z))):=by
 refine aT [] (fun|5=>[33333]|_=>[]) tyU RU Tryz.func185 (by kernel_rfl) rfl (ag rfl) (ag rfl) rfl ?_
 conv=>whnf
 refine⟨Nat×aB,λq=>⟨[(0,.ptr 100004 0),(1,.d (.ptr [.slice 1 (l.map cK)])),(2,.ptr 100003 0),(3,.d (.ptr [.str cut])),(8,.d (.slice 1 (l.map cK))),(9,.d (.int .i64 ((l.map cK).length:Int))),(10,.d (.int .i64 q.1))],NR o q.2⟩,
  λq=>q.1<=l.length/\cn o.w o.life cut (l.drop q.1) q.2=cn o.w o.life cut l z/\q.2.sets.length<=z.sets.length+q.1,λq=>l.length-q.1,⟨(0,z),⟨Nat.zero_le _,rfl,Nat.le_refl _⟩,ah.keep⟩,?_⟩
 rintro⟨k,y⟩ ⟨hk,hy,hs⟩;dsimp only at hk hy hs
 conv=>whnf
 refine af (λh1=>?_) (λh1=>?_) <;> (rw[h1];conv=>whnf)
 . have hlt:k<l.length:=by simp at h1;omega
   obtain⟨n,hnk⟩:∃n,l[k]? =some n:=⟨_,aj hlt⟩
   have hw:=hh n (ar hnk);unfold bk at hw;simp only[aH,decide_eq_true_eq]at hw;obtain⟨h,hh2⟩:∃h,o.w.hosts[n.toNat]? =some h:=⟨_,aj (by omega)⟩
   have e1:nameAt o.w n=h.name:=by unfold nameAt;rw[hh2]
   have e2:addrAt o.w n=h.addr:=by unfold addrAt;rw[hh2]
   rw[drop_cons hnk]at hy;have hy:cn o.w o.life cut (l.drop (k+1)) (jy o.w o.life cut y n)=cn o.w o.life cut l z:=hy;unfold jy at hy;rw[e1,e2]at hy;refine⟨aw k,cK n,aD hnk,?_⟩
   conv=>whnf
   refine⟨hw.1,eN h,aD hh2,?_⟩
   conv=>whnf
   (refine⟨_,_,mO h.name cut,?_⟩;conv=>whnf)
   refine af (λh3=>?_) (λh3=>?_) <;> (rw[h3];conv=>whnf)
   . rw[if_pos h3]at hy;have hB:=bx (cx' :=cxU) rfl rfl (dH h.name 1 o.life [⟨[],h.addr,0⟩]);have hB1:=bx (cx' :=cxU) rfl rfl (dW y h.name 1 o.life [⟨[],h.addr,0⟩] (by omega) (by simp));have hlen:=fX y h.name 1 o.life [⟨[],h.addr,0⟩];generalize bo y h.name 1 o.life [⟨[],h.addr,0⟩]=y' at hy hB1 hlen
     (refine⟨(by kernel_rfl:bA _=true),?_⟩;conv=>whnf)
     repeat' (first
      |(refine⟨[7,100004,90020,100003,100034,90032,90040,90041],_,hB,⟨rfl,rfl,rfl⟩,?_⟩;(conv=>whnf);refine aA ?_;(conv=>whnf))
      |(refine⟨[7,100003,100034,90032,90040,90041],_,hB1,⟨rfl,rfl,rfl⟩,?_⟩;(conv=>whnf);refine aA ?_;(conv=>whnf))
      |(refine And.intro (by kernel_rfl) ?_;conv=>whnf)
      |(refine And.intro ?_ ?_ <;> (conv=>whnf)))
     all_goals exact⟨(k+1,y'),⟨hlt,hy,by dsimp only;omega⟩,by(show l.length-(k+1)<l.length-k;omega),ah.keep ⟨ae,ae,ae,ae,ae,ae,⟨an (k:=k) (by omega),rfl⟩,trivial⟩⟩
   . rw[if_neg (by rw[h3];decide)]at hy;exact⟨(k+1,y),⟨hlt,hy,by dsimp only;omega⟩,by(show l.length-(k+1)<l.length-k;omega),ah.keep ⟨ae,ae,ae,ae,ae,ae,⟨an (k:=k) (by omega),rfl⟩,trivial⟩⟩
 . obtain rfl:k=l.length:=by simp at h1;omega
   rw[List.drop_length]at hy;have hy:y=cn o.w o.life cut l z:=hy;subst hy;exact .inl ⟨[],ah.keep trivial,rfl⟩
def pvW(e:Int):Value:= .iface 128 (.agg #[.int .i64 e])
theorem IG(e:Int)(w:World):Calls Tryz.prog 111 #[.int .i64 e] w λen w' =>en= .panicked [{v:=pvW e,recovered:=false}]/\w' =w:=by
 go_enter Tryz.func111,Tryz.ntmps111
 go_wp2
 exact⟨rfl,rfl,rfl⟩
theorem jw(e:Int)(he:e≠0):FnP cxW pvW 111 [.d (.int .i64 e)] [] none:=by
 refine⟨⟨_,Tryz.func111,by kernel_rfl,by kernel_rfl⟩,λO w σ vs hO hG hGO hdis hH hsz hrep=>?_⟩;have v0:vs.getD 0 Go.undef= .int .i64 e:=(hrep 0 _ rfl).int;have hvs:vs= #[.int .i64 e]:=by rw[wg hsz,v0]
 rw[hvs];refine(IG e w).mono ?_;rintro en w' ⟨rfl,rfl⟩;exact⟨⟨rfl,rfl,rfl,Nat.le_refl _,λ_ _=>rfl⟩,e,he,rfl⟩
noncomputable def IA:Cx:={cx with chg:=fY [(111,9)]}
theorem Sp:ba IA:=aV
theorem Hh:IA.P.follows .mixedOrders=true:=mixed
theorem tg(z:aB)(s:Bs)(kind:Int)(hn:z.sets.length<=100000):FnP IA pvW 63 [.undef,.agg ((aG z).map .d),.d (.str s),.d (.int .i64 kind)] [] (if (wfR z s kind).2=true then some (.agg ((bJ (wfR z s kind).1).map .d),[])else none):=by
 cases h:(wfR z s kind).2 with
 |true =>
  rw[if_pos rfl];refine aT [] (fun|_=>[]) Sp Hh Tryz.func63 (by kernel_rfl) rfl (ag rfl) (ag rfl) rfl ?_
  conv=>whnf
  have hf:=mA z s kind hn;rw[h]at hf
  (refine⟨_,_,hf,?_⟩;conv=>whnf)
  exact bF rfl rfl rfl trivial
 |false =>
  rw[if_neg (by decide)];refine aT [] (fun|3=>[33333]|_=>[]) Sp Hh Tryz.func63 (by kernel_rfl) rfl (ag rfl) (ag rfl) rfl ?_
  conv=>whnf
  have hf:=mA z s kind hn;rw[h]at hf
  (refine⟨_,_,hf,?_⟩;conv=>whnf)
  have hF:=bx (cx' :=IA) rfl rfl (jw 35 (by decide));exact⟨[5,8,9],_,hF,⟨rfl,rfl,rfl⟩,rfl⟩
noncomputable def Ai:Cx:={cx with chg:=fY [(111,9),(110,9)]}
theorem Sq:ba Ai:=aV
theorem Hi:Ai.P.follows .mixedOrders=true:=mixed
abbrev PT(z:aB):List (Nat×Blk):=(90005,.box [.d (.str z.apex),.own 90020])::eS z
theorem zT(z:aB)(s:Bs)(kind:Int)(hn:z.sets.length<=100000):FnP cxW pv0 110 [.agg [.d (.str z.apex),.own 90020],.d (.str s),.d (.int .i64 kind)] (PT z) (some (.tuple [.agg ((bJ (wfR z s kind).1).map .d),.d (.bool (wfR z s kind).2)],PT z)):=by
 refine aT [] (fun|_=>[]) tyW sf Tryz.func110 (by kernel_rfl) rfl (ag rfl) (ag rfl) rfl ?_
 conv=>whnf
 (refine⟨_,xz z.sets (isF s kind) _ _ hn (λx _=>vu x s kind),rfl,?_⟩;conv=>whnf)
 have hfi:=kL (isF s kind) z.sets;have hfr:wfR z s kind=match z.sets.find? (isF s kind)with|some x=>(x.set,true)|none=>(oE,false):=rfl
 cases hi:z.sets.findIdx? (isF s kind)with
 |none =>
  rw[hi]at hfi;rw[<- hfi]at hfr
  conv=>whnf
  exact bF rfl (by rw[hfr];rfl) (by rw[hfr];rfl)
 |some k =>
  rw[hi]at hfi;obtain⟨hlt,_⟩:=List.findIdx?_eq_some_iff_getElem.1 hi;obtain⟨x,hx⟩:∃x,z.sets[k]? =some x:=⟨_,aj hlt⟩
  rw[<- hfi]at hfr;simp only[hx]at hfr
  conv=>whnf
  refine⟨aw k,by(show k<_;rw[ao];exact hlt),?_⟩
  conv=>whnf
  refine⟨ak x,aD hx,?_⟩
  conv=>whnf
  exact bF rfl (by rw[hfr];rfl) (by rw[hfr];rfl)
theorem bB{cx:Cx}{pv pv' :Int->Value}{f:FuncId}{args:List AV}{h:List (Nat×Blk)}{x:AV}{h' :List (Nat×Blk)}(hf:FnP cx pv f args h (some (x,h'))):FnP cx pv' f args h (some (x,h')):=hf
theorem qP(z:aB)(s:Bs)(kind:Int)(hn:z.sets.length<=100000):FnP Ai pvW 63 [.undef,.agg [.d (.str z.apex),.own 90020],.d (.str s),.d (.int .i64 kind)] (eS z) (if (wfR z s kind).2=true then some (.agg ((bJ (wfR z s kind).1).map .d),eS z)else none):=by
 cases h:(wfR z s kind).2 with
 |true =>
  rw[if_pos rfl];refine aT [] (fun|1=>[33333,55555]|_=>[]) Sq Hi Tryz.func63 (by kernel_rfl) rfl (ag rfl) (ag rfl) rfl ?_
  conv=>whnf
  have hf:=bB (pv' :=pvW) (bx (cx' :=Ai) rfl rfl (zT z s kind hn));rw[h]at hf;refine⟨_,ah.name 5 90005 rfl rfl,?_⟩
  conv=>whnf
  refine⟨[8],_,hf,⟨rfl,rfl,rfl⟩,?_⟩
  conv=>whnf
  refine aA ?_
  conv=>whnf
  exact bF rfl rfl rfl
 |false =>
  rw[if_neg (by decide)];refine aT [] (fun|1=>[33333,55555]|3=>[33333]|_=>[]) Sq Hi Tryz.func63 (by kernel_rfl) rfl (ag rfl) (ag rfl) rfl ?_
  conv=>whnf
  have hf:=bB (pv' :=pvW) (bx (cx' :=Ai) rfl rfl (zT z s kind hn));rw[h]at hf;refine⟨_,ah.name 5 90005 rfl rfl,?_⟩
  conv=>whnf
  refine⟨[8],_,hf,⟨rfl,rfl,rfl⟩,?_⟩
  conv=>whnf
  refine aA ?_
  conv=>whnf
  have hF:=bx (cx' :=Ai) rfl rfl (jw 35 (by decide));exact⟨[90005,8,9,100004,90020],_,hF,⟨rfl,rfl,rfl⟩,rfl⟩
end Go.Proofs.YtodofogcincleaaGreatDoor
namespace NP
open NQ Go
def gh(s:ck):Datum:=match s.data with|d::_=>d|[]=>⟨[],0,0⟩
def eD(z:aB):aB:=bo z z.apex 4 0 [⟨[],(ik (gh (wfR z z.apex 4).1).n).1,(gh (wfR z z.apex 4).1).m⟩]
def kV(since till:Int)(v:aB):Option aB :=
 if (wfR v v.apex 7).2=true then
  if (((cE (wfR v v.apex 7).1).2 != 0)|| !aR v)=true then none
  else if ((eo v).2 != 0)=true then none
  else if (((ib (eo v).1 (cE (wfR v v.apex 7).1).1 since till).2 != 0)|| !aR (ib (eo v).1 (cE (wfR v v.apex 7).1).1 since till).1)=true then none
  else some (ib (eo v).1 (cE (wfR v v.apex 7).1).1 since till).1
 else none
def cG(since till:Int)(z:aB):Option aB :=
 if (wfR z z.apex 4).2=true then
  if ((ik (gh (wfR z z.apex 4).1).n).2 != 0)=true then none
  else kV since till (eD z)
 else none
def mr(h:List (Nat×Blk)):Option aB->Option (AV×List (Nat×Blk))
 |some z=>some (.agg ((aG z).map .d),h)
 |none=>none
end NP
namespace Go.Proofs.YtodofogcincleaaGreatDoor
open NQ Go NP Go.RowKit
noncomputable def cO:Cx:={cx with chg:=fY [(131,9),(116,9),(181,9),(195,9),(185,9),(63,11),(111,9)],bld:=[50]}
theorem EX:ba cO:=aV
theorem se:cO.P.follows .mixedOrders=true:=mixed
def fG(n:Nat):Code->Option Code
 | .region id ops dr=>(match Nat.beq id n with|true=>some (.region id ops dr)|false=>none)
 | .seq a b=>(match fG n a with|some c=>some (.seq c b)|none=>fG n b)
 |_=>none
theorem eT{cx:Cx}{fre:List Nat}{st canon:St}{X:St->Prop}(h:∃st',ah cx fre canon st' /\X st')(hw:ah cx fre st canon):∃st',ah cx fre st st' /\X st' :=by
 obtain⟨st',h1,h2⟩:=h;exact⟨st',hw.trans h1,h2⟩
theorem tP(s:ck):(cE s).1.length<=100000:=by
 unfold cE;split
 . rename_i h;split
   . have:=ni h;unfold lW;simp;omega
   . simp
 . simp
def slF:Nat->List Nat:=(fun|1=>[33333]|5=>[33333]|7=>[33333,55555]|10=>[33333]|11=>[33333,55555]|12=>[33333,55555]|13=>[90020]|14=>[33333]|15=>[55555]|18=>[55555]|17=>[33333]|20=>[33333]|_=>[])
noncomputable abbrev zx:Code:=(Tryz.f120).body.getD .skip
noncomputable abbrev JN:List ResultVar:=(Tryz.f120).results.toList
set_option maxHeartbeats 4000000 in
theorem JH(o:aX)(v:aB)(hyl:v.sets.length<=90001) :
 vcp cO [100004] pvW 101 slF (λ_=>mr (bg o) (kV o.since o.till v)=none) ((fG 12 zx).getD .skip) (mT cO [100004] JN (mr (bg o) (kV o.since o.till v)))
  ⟨[(0,.ptr 100034 0),(4,.ptr 100004 0),(6,.ptr 6 0)],eS v++(6,.box [.d (.str []),.nil 5])::bg o⟩:=by
 conv=>whnf
 refine⟨_,ah.refl _,?_⟩
 conv=>whnf
 obtain⟨r,hr⟩:∃r,r=kV o.since o.till v:=⟨_,rfl⟩
 rw[<- hr];unfold kV at hr;have hN:=qP v v.apex 7 (by omega);obtain⟨s7,b7,h7⟩:∃a b,wfR v v.apex 7=(a,b):=⟨_,_,rfl⟩
 rw[h7]at hN hr;dsimp only at hN hr;cases b7 with
 |false =>
  rw[if_neg (by decide)]at hr hN;subst hr;have hN:=bx (cx' :=cO) rfl rfl hN;exact⟨[6,100034,90032,90040,90041],_,hN,⟨rfl,rfl,rfl⟩,rfl⟩
 |true =>
 rw[if_pos rfl]at hN hr;have hN:=bx (cx' :=cO) rfl rfl hN;refine⟨[6,100034,90032,90040,90041],_,hN,⟨rfl,rfl,rfl⟩,?_⟩
 conv=>whnf
 refine aA ?_;clear hN
 conv=>whnf
 have hK:=qq s7;obtain⟨ks,ke,hks⟩:∃a b,cE s7=(a,b):=⟨_,_,rfl⟩
 rw[hks]at hK hr;dsimp only at hK hr
 (refine⟨_,_,hK,?_⟩;conv=>whnf)
 have hF:=bx (cx' :=cO) rfl rfl (jw 35 (by decide));have hkl:ks.length<=100000:=by
  have e:ks=(cE s7).1:=by rw[hks]
  rw[e];exact tP s7
 cases hke:(ke != 0)with
 |true =>
  rw[hke,if_pos (by simp)]at hr;subst hr
  conv=>whnf
  exact⟨[6,100004,100034,90032,90040,90041],_,hF,⟨rfl,rfl,rfl⟩,rfl⟩
 |false =>
 conv=>whnf
 (refine⟨_,_,iM v,?_⟩;conv=>whnf)
 cases hvv:aR v with
 |false =>
  rw[hke,hvv,if_pos (by simp)]at hr;subst hr
  conv=>whnf
  exact⟨[6,100004,100034,90032,90040,90041],_,hF,⟨rfl,rfl,rfl⟩,rfl⟩
 |true =>
 rw[hke,hvv,if_neg (by simp)]at hr
 conv=>whnf
 refine⟨_,ah.keep (sl:=[(0,.ptr 100034 0),(4,.ptr 100004 0),(6,.ptr 6 0),(12,.d (.slice 2 (ks.map cQ)))]) (h:=(100004,.box ((aG v).map .d))::(6,.box [.d (.str []),.nil 5])::bg o),?_⟩
 conv=>whnf
 have hC:=Dd v;obtain⟨c,ce,hc⟩:∃a b,eo v=(a,b):=⟨_,_,rfl⟩
 rw[hc]at hC hr;dsimp only at hC hr
 (refine⟨_,_,hC,?_⟩;conv=>whnf)
 cases hce:(ce != 0)with
 |true =>
  rw[hce,if_pos (by simp)]at hr;subst hr
  conv=>whnf
  exact⟨[6,100004,100034,90032,90040,90041],_,hF,⟨rfl,rfl,rfl⟩,rfl⟩
 |false =>
 rw[hce,if_neg (by simp)]at hr
 conv=>whnf
 refine⟨_,ah.keep (sl:=[(0,.ptr 100034 0),(4,.ptr 100004 0),(6,.ptr 6 0),(12,.d (.slice 2 (ks.map cQ)))]) (h:=(100004,.box ((aG c).map .d))::(6,.box [.d (.str []),.nil 5])::bg o),?_⟩
 conv=>whnf
 have hL:=CO c ks o.since o.till hkl;obtain⟨l,le,hl⟩:∃a b,ib c ks o.since o.till=(a,b):=⟨_,_,rfl⟩
 rw[hl]at hL hr;dsimp only at hL hr
 (refine⟨(by kernel_rfl:bC _ _=true),?_⟩;conv=>whnf)
 (refine⟨_,_,hL,?_⟩;conv=>whnf)
 cases hle:(le != 0)with
 |true =>
  rw[hle,if_pos (by simp)]at hr;subst hr
  conv=>whnf
  exact⟨[6,100004,100034,90032,90040,90041],_,hF,⟨rfl,rfl,rfl⟩,rfl⟩
 |false =>
 conv=>whnf
 (refine⟨_,_,iM l,?_⟩;conv=>whnf)
 cases hvl:aR l with
 |false =>
  rw[hle,hvl,if_pos (by simp)]at hr;subst hr
  conv=>whnf
  exact⟨[6,100004,100034,90032,90040,90041],_,hF,⟨rfl,rfl,rfl⟩,rfl⟩
 |true =>
 rw[hle,hvl,if_neg (by simp)]at hr;subst hr
 conv=>whnf
 exact bF rfl rfl rfl
set_option maxHeartbeats 4000000 in
theorem Ma(o:aX)(y:aB)(hyl:y.sets.length<=90000)(hst:(wfR y y.apex 4).2=true->(wfR y y.apex 4).1.data≠[]) :
 vcp cO [100004] pvW 101 slF (λ_=>mr (bg o) (cG o.since o.till y)=none) ((fG 7 zx).getD .skip) (mT cO [100004] JN (mr (bg o) (cG o.since o.till y)))
  ⟨[(0,.ptr 100034 0),(4,.ptr 100004 0),(6,.ptr 6 0)],eS y++(6,.box [.d (.str []),.nil 5])::bg o⟩:=by
 conv=>whnf
 refine⟨_,ah.refl _,?_⟩
 conv=>whnf
 obtain⟨r,hr⟩:∃r,r=cG o.since o.till y:=⟨_,rfl⟩
 rw[<- hr];unfold cG at hr;have hN:=qP y y.apex 4 (by omega);cases h1:(wfR y y.apex 4).2 with
 |false =>
  rw[h1]at hN;rw[h1,if_neg (by decide)]at hr;subst hr;have hN:=bx (cx' :=cO) rfl rfl hN;exact⟨[6,100034,90032,90040,90041],_,hN,⟨rfl,rfl,rfl⟩,rfl⟩
 |true =>
 rw[h1,if_pos rfl]at hN;rw[h1,if_pos rfl]at hr;have hN:=bx (cx' :=cO) rfl rfl hN;refine⟨[6,100034,90032,90040,90041],_,hN,⟨rfl,rfl,rfl⟩,?_⟩
 conv=>whnf
 refine aA ?_
 conv=>whnf
 have hne:=hst h1;obtain⟨d0,dt,hdat⟩:∃d t,(wfR y y.apex 4).1.data=d::t:=by
  cases hc:(wfR y y.apex 4).1.data with
  |nil=>exact absurd hc hne
  |cons d t=>exact⟨d,t,rfl⟩
 have hd0:gh (wfR y y.apex 4).1=d0:=by unfold gh;rw[hdat]
 rw[hd0]at hr;have hget:((wfR y y.apex 4).1.data.map aI)[(0:Int).toNat]? =some (aI d0):=by rw[hdat];rfl
 refine⟨Int.le_refl 0,aI d0,hget,?_⟩
 conv=>whnf
 obtain⟨nx,ne,hsu⟩:∃a b,ik d0.n=(a,b):=⟨_,_,rfl⟩
 have hA:=CL d0.n;rw[hsu]at hA hr;dsimp only at hA hr
 (refine⟨_,_,hA,?_⟩;conv=>whnf)
 refine af (λh2=>?_) (λh2=>?_) <;> (rw[h2];conv=>whnf)
 . rw[if_pos h2]at hr;subst hr;have hF:=bx (cx' :=cO) rfl rfl (jw 35 (by decide));exact⟨[6,9,100004,90020,100034,90032,90040,90041],_,hF,⟨rfl,rfl,rfl⟩,rfl⟩
 rw[if_neg (by rw[h2];decide)]at hr;have hsn:eD y=bo y y.apex 4 0 [⟨[],nx,d0.m⟩]:=by unfold eD;rw[hd0,hsu]
 have hB:=bB (pv' :=pvW) (bx (cx' :=cO) rfl rfl (dH y.apex 4 0 [⟨[],nx,d0.m⟩]));have hB1:=bB (pv' :=pvW) (bx (cx' :=cO) rfl rfl (dW y y.apex 4 0 [⟨[],nx,d0.m⟩] (by omega) (by simp)));have hl2:=fX y y.apex 4 0 [⟨[],nx,d0.m⟩];have ha2:(bo y y.apex 4 0 [⟨[],nx,d0.m⟩]).apex=y.apex:=rfl;rw[<- hsn]at hB1 hl2 ha2;generalize eD y=v at hB1 hl2 ha2 hr hsn;refine⟨_,ah.keep (sl:=[(0,.ptr 100034 0),(4,.ptr 100004 0),(6,.ptr 6 0),(9,.ptr 9 0),(10,.d (.int .i64 nx))]) (h:=eS y++(6,.box [.d (.str []),.nil 5])::(9,.box ((bJ (wfR y y.apex 4).1).map .d))::bg o),?_⟩
 conv=>whnf
 (refine⟨(by kernel_rfl:bA _=true),?_⟩;conv=>whnf)
 refine⟨Int.le_refl 0,aI d0,hget,?_⟩
 conv=>whnf
 refine⟨by kernel_rfl,?_⟩
 conv=>whnf
 refine⟨by kernel_rfl,?_⟩
 conv=>whnf
 refine⟨[6,9,100004,90020,100034,90032,90040,90041],_,hB,⟨rfl,rfl,rfl⟩,?_⟩
 conv=>whnf
 refine aA ?_
 conv=>whnf
 refine⟨[6,9,100034,90032,90040,90041],_,hB1,⟨rfl,rfl,rfl⟩,?_⟩
 conv=>whnf
 refine aA ?_
 conv=>whnf
 have ht:=JH o v (by omega)
 conv at ht=>whnf
 rw[<- hr]at ht;exact eT ht (ah.keep)
abbrev Ru(s:Bs)(kind life:Int)(data:List Datum):D:= .fn 181 [] [.ptr [.str s],.ptr [.int .i64 kind],.ptr [.int .i64 life],.ptr [.slice 3 (data.map aI)]]
set_option maxHeartbeats 4000000 in
theorem qW(o:aX)(z:aB)(s:Bs)(kind life:Int)(data:List Datum)(hz:aR z=true)(hd:data.length<=100000)(hst:(wfR (bo z s kind life data) z.apex 4).2=true->(wfR (bo z s kind life data) z.apex 4).1.data≠[]) :
 FnP cO pvW 120 [.ptr 100034 0,.agg ((aG z).map .d),.d (.slice 1 [[Ru s kind life data]])] (bg o) (mr (bg o) (cG o.since o.till (bo z s kind life data))):=by
 refine aT [100004] slF EX se Tryz.func120 (by kernel_rfl) rfl (ag rfl) (ag rfl) rfl ?_
 conv=>whnf
 have ho:=bT hz;have hC:=bB (pv' :=pvW) (bx (cx' :=cO) rfl rfl (jt z (by have:=ho.few;omega) (λs hs=>by have:=ko hz s hs;omega)));refine⟨[4,6,100034,90032,90040,90041],_,hC,⟨rfl,rfl,rfl⟩,?_⟩
 conv=>whnf
 refine aA ?_
 conv=>whnf
 refine⟨Nat,λk=>⟨[(0,.ptr 100034 0),(4,.ptr 100004 0),(6,.ptr 6 0),(15,.d (.slice 1 [[Ru s kind life data]])),(16,.d (.int .i64 1)),(17,.d (.int .i64 k))],eS (match k with|0=>z|_=>bo z s kind life data)++(6,.box [.d (.str []),.nil 5])::bg o⟩,
  λk=>k<=1,λk=>1-k,⟨0,Nat.zero_le _,(ah.name 4 100004 rfl rfl).trans (ah.keep)⟩,λk hk=>?_⟩
 rcases k with _|_|k
 case succ.succ=>omega
 . conv=>whnf
   refine⟨by decide,_,rfl,?_⟩
   conv=>whnf
   have hB1:=bB (pv' :=pvW) (bx (cx' :=cO) rfl rfl (dW z s kind life data (by have:=ho.few;omega) hd));refine⟨[6,100034,90032,90040,90041],_,hB1,⟨rfl,rfl,rfl⟩,?_⟩
   conv=>whnf
   refine aA ?_
   conv=>whnf
   exact⟨1,Nat.le_refl _,by decide,ah.keep⟩
 have hT:=Ma o (bo z s kind life data) (by have:=fX z s kind life data;have:=ho.few;omega) hst
 conv at hT=>whnf
 conv=>whnf
 exact eT hT (ah.keep)
abbrev gB(o:aX):List (Nat×Blk):=(100003,.box [.ptr 100034 0])::bg o
abbrev mj(l:List Int)(cut:Bs):AV:= .fn 185 [] [.d (.ptr [.slice 1 (l.map cK)]),.ptr 100003 0,.d (.ptr [.str cut])]
set_option maxHeartbeats 4000000 in
theorem Gc(o:aX)(v:aB)(hyl:v.sets.length<=90001) :
 vcp cO [100004] pvW 101 slF (λ_=>mr (gB o) (kV o.since o.till v)=none) ((fG 12 zx).getD .skip) (mT cO [100004] JN (mr (gB o) (kV o.since o.till v)))
  ⟨[(0,.ptr 100034 0),(4,.ptr 100004 0),(6,.ptr 6 0)],eS v++(6,.box [.d (.str []),.nil 5])::gB o⟩:=by
 conv=>whnf
 refine⟨_,ah.refl _,?_⟩
 conv=>whnf
 obtain⟨r,hr⟩:∃r,r=kV o.since o.till v:=⟨_,rfl⟩
 rw[<- hr];unfold kV at hr;have hN:=qP v v.apex 7 (by omega);obtain⟨s7,b7,h7⟩:∃a b,wfR v v.apex 7=(a,b):=⟨_,_,rfl⟩
 rw[h7]at hN hr;dsimp only at hN hr;cases b7 with
 |false =>
  rw[if_neg (by decide)]at hr hN;subst hr;have hN:=bx (cx' :=cO) rfl rfl hN;exact⟨[6,100003,100034,90032,90040,90041],_,hN,⟨rfl,rfl,rfl⟩,rfl⟩
 |true =>
 rw[if_pos rfl]at hN hr;have hN:=bx (cx' :=cO) rfl rfl hN;refine⟨[6,100003,100034,90032,90040,90041],_,hN,⟨rfl,rfl,rfl⟩,?_⟩
 conv=>whnf
 refine aA ?_;clear hN
 conv=>whnf
 have hK:=qq s7;obtain⟨ks,ke,hks⟩:∃a b,cE s7=(a,b):=⟨_,_,rfl⟩
 rw[hks]at hK hr;dsimp only at hK hr
 (refine⟨_,_,hK,?_⟩;conv=>whnf)
 have hF:=bx (cx' :=cO) rfl rfl (jw 35 (by decide));have hkl:ks.length<=100000:=by
  have e:ks=(cE s7).1:=by rw[hks]
  rw[e];exact tP s7
 cases hke:(ke != 0)with
 |true =>
  rw[hke,if_pos (by simp)]at hr;subst hr
  conv=>whnf
  exact⟨[6,100004,100003,100034,90032,90040,90041],_,hF,⟨rfl,rfl,rfl⟩,rfl⟩
 |false =>
 conv=>whnf
 (refine⟨_,_,iM v,?_⟩;conv=>whnf)
 cases hvv:aR v with
 |false =>
  rw[hke,hvv,if_pos (by simp)]at hr;subst hr
  conv=>whnf
  exact⟨[6,100004,100003,100034,90032,90040,90041],_,hF,⟨rfl,rfl,rfl⟩,rfl⟩
 |true =>
 rw[hke,hvv,if_neg (by simp)]at hr
 conv=>whnf
 refine⟨_,ah.keep (sl:=[(0,.ptr 100034 0),(4,.ptr 100004 0),(6,.ptr 6 0),(12,.d (.slice 2 (ks.map cQ)))]) (h:=(100004,.box ((aG v).map .d))::(6,.box [.d (.str []),.nil 5])::gB o),?_⟩
 conv=>whnf
 have hC:=Dd v;obtain⟨c,ce,hc⟩:∃a b,eo v=(a,b):=⟨_,_,rfl⟩
 rw[hc]at hC hr;dsimp only at hC hr
 (refine⟨_,_,hC,?_⟩;conv=>whnf)
 cases hce:(ce != 0)with
 |true =>
  rw[hce,if_pos (by simp)]at hr;subst hr
  conv=>whnf
  exact⟨[6,100004,100003,100034,90032,90040,90041],_,hF,⟨rfl,rfl,rfl⟩,rfl⟩
 |false =>
 rw[hce,if_neg (by simp)]at hr
 conv=>whnf
 refine⟨_,ah.keep (sl:=[(0,.ptr 100034 0),(4,.ptr 100004 0),(6,.ptr 6 0),(12,.d (.slice 2 (ks.map cQ)))]) (h:=(100004,.box ((aG c).map .d))::(6,.box [.d (.str []),.nil 5])::gB o),?_⟩
 conv=>whnf
 have hL:=CO c ks o.since o.till hkl;obtain⟨l,le,hl⟩:∃a b,ib c ks o.since o.till=(a,b):=⟨_,_,rfl⟩
 rw[hl]at hL hr;dsimp only at hL hr
 (refine⟨(by kernel_rfl:bC _ _=true),?_⟩;conv=>whnf)
 (refine⟨_,_,hL,?_⟩;conv=>whnf)
 cases hle:(le != 0)with
 |true =>
  rw[hle,if_pos (by simp)]at hr;subst hr
  conv=>whnf
  exact⟨[6,100004,100003,100034,90032,90040,90041],_,hF,⟨rfl,rfl,rfl⟩,rfl⟩
 |false =>
 conv=>whnf
 (refine⟨_,_,iM l,?_⟩;conv=>whnf)
 cases hvl:aR l with
 |false =>
  rw[hle,hvl,if_pos (by simp)]at hr;subst hr
  conv=>whnf
  exact⟨[6,100004,100003,100034,90032,90040,90041],_,hF,⟨rfl,rfl,rfl⟩,rfl⟩
 |true =>
 rw[hle,hvl,if_neg (by simp)]at hr;subst hr
 conv=>whnf
 exact bF rfl rfl rfl
set_option maxHeartbeats 4000000 in
theorem pk(o:aX)(y:aB)(hyl:y.sets.length<=90000)(hst:(wfR y y.apex 4).2=true->(wfR y y.apex 4).1.data≠[]) :
 vcp cO [100004] pvW 101 slF (λ_=>mr (gB o) (cG o.since o.till y)=none) ((fG 7 zx).getD .skip) (mT cO [100004] JN (mr (gB o) (cG o.since o.till y)))
  ⟨[(0,.ptr 100034 0),(4,.ptr 100004 0),(6,.ptr 6 0)],eS y++(6,.box [.d (.str []),.nil 5])::gB o⟩:=by
 conv=>whnf
 refine⟨_,ah.refl _,?_⟩
 conv=>whnf
 obtain⟨r,hr⟩:∃r,r=cG o.since o.till y:=⟨_,rfl⟩
 rw[<- hr];unfold cG at hr;have hN:=qP y y.apex 4 (by omega);cases h1:(wfR y y.apex 4).2 with
 |false =>
  rw[h1]at hN;rw[h1,if_neg (by decide)]at hr;subst hr;have hN:=bx (cx' :=cO) rfl rfl hN;exact⟨[6,100003,100034,90032,90040,90041],_,hN,⟨rfl,rfl,rfl⟩,rfl⟩
 |true =>
 rw[h1,if_pos rfl]at hN;rw[h1,if_pos rfl]at hr;have hN:=bx (cx' :=cO) rfl rfl hN;refine⟨[6,100003,100034,90032,90040,90041],_,hN,⟨rfl,rfl,rfl⟩,?_⟩
 conv=>whnf
 refine aA ?_
 conv=>whnf
 have hne:=hst h1;obtain⟨d0,dt,hdat⟩:∃d t,(wfR y y.apex 4).1.data=d::t:=by
  cases hc:(wfR y y.apex 4).1.data with
  |nil=>exact absurd hc hne
  |cons d t=>exact⟨d,t,rfl⟩
 have hd0:gh (wfR y y.apex 4).1=d0:=by unfold gh;rw[hdat]
 rw[hd0]at hr;have hget:((wfR y y.apex 4).1.data.map aI)[(0:Int).toNat]? =some (aI d0):=by rw[hdat];rfl
 refine⟨Int.le_refl 0,aI d0,hget,?_⟩
 conv=>whnf
 obtain⟨nx,ne,hsu⟩:∃a b,ik d0.n=(a,b):=⟨_,_,rfl⟩
 have hA:=CL d0.n;rw[hsu]at hA hr;dsimp only at hA hr
 (refine⟨_,_,hA,?_⟩;conv=>whnf)
 refine af (λh2=>?_) (λh2=>?_) <;> (rw[h2];conv=>whnf)
 . rw[if_pos h2]at hr;subst hr;have hF:=bx (cx' :=cO) rfl rfl (jw 35 (by decide));exact⟨[6,9,100004,90020,100003,100034,90032,90040,90041],_,hF,⟨rfl,rfl,rfl⟩,rfl⟩
 rw[if_neg (by rw[h2];decide)]at hr;have hsn:eD y=bo y y.apex 4 0 [⟨[],nx,d0.m⟩]:=by unfold eD;rw[hd0,hsu]
 have hB:=bB (pv' :=pvW) (bx (cx' :=cO) rfl rfl (dH y.apex 4 0 [⟨[],nx,d0.m⟩]));have hB1:=bB (pv' :=pvW) (bx (cx' :=cO) rfl rfl (dW y y.apex 4 0 [⟨[],nx,d0.m⟩] (by omega) (by simp)));have hl2:=fX y y.apex 4 0 [⟨[],nx,d0.m⟩];have ha2:(bo y y.apex 4 0 [⟨[],nx,d0.m⟩]).apex=y.apex:=rfl;rw[<- hsn]at hB1 hl2 ha2;generalize eD y=v at hB1 hl2 ha2 hr hsn;refine⟨_,ah.keep (sl:=[(0,.ptr 100034 0),(4,.ptr 100004 0),(6,.ptr 6 0),(9,.ptr 9 0),(10,.d (.int .i64 nx))]) (h:=eS y++(6,.box [.d (.str []),.nil 5])::(9,.box ((bJ (wfR y y.apex 4).1).map .d))::gB o),?_⟩
 conv=>whnf
 (refine⟨(by kernel_rfl:bA _=true),?_⟩;conv=>whnf)
 refine⟨Int.le_refl 0,aI d0,hget,?_⟩
 conv=>whnf
 refine⟨by kernel_rfl,?_⟩
 conv=>whnf
 refine⟨by kernel_rfl,?_⟩
 conv=>whnf
 refine⟨[6,9,100004,90020,100003,100034,90032,90040,90041],_,hB,⟨rfl,rfl,rfl⟩,?_⟩
 conv=>whnf
 refine aA ?_
 conv=>whnf
 refine⟨[6,9,100003,100034,90032,90040,90041],_,hB1,⟨rfl,rfl,rfl⟩,?_⟩
 conv=>whnf
 refine aA ?_
 conv=>whnf
 have ht:=Gc o v (by omega)
 conv at ht=>whnf
 rw[<- hr]at ht;exact eT ht (ah.keep)
def ZSm(z:aB):Prop:=z.sets.length<=20000/\ ∀s∈z.sets,s.set.data.length<=100000/\s.sigs.length<=100000
theorem dK(w:aL)(life:Int)(cut:Bs):∀(l:List Int) (z:aB),(cn w life cut l z).apex=z.apex
 |[],z=>rfl
 |n::t,z=>by
  show(cn w life cut t (jy w life cut z n)).apex=z.apex
  rw[dK w life cut t];unfold jy;split <;> rfl
def oO(p:Signed->Bool)(z:aB):aB:=⟨z.apex,z.sets.filter λs=> !p s⟩
theorem OC(p:Signed->Bool)(z:aB):(oO p z).sets.length<=z.sets.length:=List.length_filter_le ..
abbrev woA(F:FuncId)(x:aY):AV:= .fn 195 [] [.d (.ptr [.fn F [] [.ptr (aS x)]])]
set_option maxHeartbeats 8000000 in
theorem JD(o:aX)(z:aB)(s:Bs)(c:Int)(f:Int)(d:List Datum)(cut:Bs)(l:List Int)(hz:ZSm z)(hh:∀n∈l,bk o.w n=true)(hl:l.length<=1000)(hd:d.length<=100000)(hst:(wfR (cn o.w o.life cut l (bo z s c f d)) z.apex 4).2=true->(wfR (cn o.w o.life cut l (bo z s c f d)) z.apex 4).1.data≠[]) :
 FnP cO pvW 120 [.ptr 100034 0,.agg ((aG z).map .d),.own 76] ((76,.arow 177 1 [[ku s c f d],[mj l cut]])::gB o) (mr (gB o) (cG o.since o.till (cn o.w o.life cut l (bo z s c f d)))):=by
 refine aT [100004] slF EX se Tryz.func120 (by kernel_rfl) rfl (ag rfl) (ag rfl) rfl ?_
 conv=>whnf
 have hC:=bB (pv' :=pvW) (bx (cx' :=cO) rfl rfl (jt z (by have:=hz.1;omega) hz.2));refine⟨[4,6,76,100003,100034,90032,90040,90041],_,hC,⟨rfl,rfl,rfl⟩,?_⟩
 conv=>whnf
 refine aA ?_
 conv=>whnf
 have hB1:=bB (pv' :=pvW) (bx (cx' :=cO) rfl rfl (dW z s c f d (by have:=hz.1;omega) hd));have hl1:=fX z s c f d;have ha1:(bo z s c f d).apex=z.apex:=rfl;generalize hg1:bo z s c f d=z1 at hB1 hl1 ha1 hst ⊢;have hB2:=bB (pv' :=pvW) (bx (cx' :=cO) rfl rfl (qH o cut l z1 hh hl (by have:=hz.1;omega)));have hl2:=ot o.w o.life cut l z1;have ha2:(cn o.w o.life cut l z1).apex=z1.apex:=dK ..;generalize hg2:cn o.w o.life cut l z1=z2 at hB2 hl2 ha2 hst ⊢
 refine⟨Nat,λk=>⟨[(0,.ptr 100034 0),(4,.ptr 100004 0),(6,.ptr 6 0),(15,.own 76),(16,.d (.int .i64 2)),(17,.d (.int .i64 k))],eS (match k with|0=>z|1=>z1|_=>z2)++(6,.box [.d (.str []),.nil 5])::(76,.arow 177 1 [[ku s c f d],[mj l cut]])::gB o⟩,
  λk=>k<=2,λk=>2-k,⟨0,Nat.zero_le _,(ah.name 4 100004 rfl rfl).trans (ah.keep)⟩,λk hk=>?_⟩
 rcases k with _|_|_|k
 case succ.succ.succ=>omega
 . conv=>whnf
   refine⟨by decide,ag rfl,?_⟩
   conv=>whnf
   refine⟨_,rfl,?_⟩
   conv=>whnf
   refine⟨[6,76,100003,100034,90032,90040,90041],_,hB1,⟨by kernel_rfl,by kernel_rfl,by kernel_rfl⟩,?_⟩
   conv=>whnf
   refine aA ?_
   conv=>whnf
   exact⟨1,by decide,by(show 2-1<2-0;omega),ah.keep⟩
 . conv=>whnf
   refine⟨by decide,ag rfl,?_⟩
   conv=>whnf
   refine⟨_,rfl,?_⟩
   conv=>whnf
   refine⟨[6,76],_,hB2,⟨by kernel_rfl,by kernel_rfl,by kernel_rfl⟩,?_⟩
   conv=>whnf
   refine aA ?_
   conv=>whnf
   exact⟨2,by decide,by(show 2-2<2-1;omega),ah.keep⟩
 have hT:=pk o z2 (by have:=hz.1;omega) (by rw[ha2,ha1];exact hst)
 conv at hT=>whnf
 conv=>whnf
 exact eT hT (ah.keep)
end Go.Proofs.YtodofogcincleaaGreatDoor
namespace NQ
open Go Go.RowKit
theorem FnP.PB{cx:Cx}{pv:Int->Value}{f:FuncId}{args:List AV}{x y:AV}{h' :List (Nat×Blk)}(s:Nat)(h:FnP cx pv f args [] (some (x,h')))(e1:((⟨[(0,x)],h'⟩:St).freeze s).get 0=y)(e2:((⟨[(0,x)],h'⟩:St).freeze s).heap=[]) :
 FnP cx pv f args [] (some (y,[])):=by
 refine⟨h.1,λO w σ vs hO hG hGO hdis hH hsz hrep=>(h.2 O w σ vs hO hG hGO hdis hH hsz hrep).mono λen w' =>?_⟩;rintro⟨hf,u,σ',rfl,hh,_,hr⟩;have hnl:∀b,¬di [] σ b:=λb ⟨s,hl,_⟩=>by simp[live,find]at hl
 let E:Env:=⟨λb=>di [] σ b\/w.heap.size<=b,O,w,1,λ_=>none,[]⟩
 have hs:Sim cx E ⟨[(0,x)],h'⟩ {tmps:= #[u],defers:=[]} w' :=by
  refine⟨σ',⟨hf,λb hb=> .inr hb,λb hb hF=>?_,rfl,rfl,λt=>?_,hh,hG,λg cells hg=>⟨λhF=>?_,(hGO g cells hg).1⟩,λq0 B hB=>by cases hB⟩⟩
  . rcases hF with hF|hF
    . exact hnl b hF
    . have:=hO b hb;omega
  . cases t with
    |zero=>exact hr
    |succ t=>exact .undef _
  . rcases hF with hF|hF
    . exact hnl g hF
    . have:=(hG g cells hg).1;omega
 obtain⟨τ,h2⟩:=hs.freeze s;refine⟨hf,u,τ,rfl,?_,λs hs=>by simp[cg]at hs,?_⟩
 . have:=h2.holds;rw[e2]at this;exact this
 . have:=h2.slots 0;rw[e1,e2]at this;exact this
theorem FnP.vR{cx:Cx}{pv:Int->Value}{f:FuncId}{args args1:List AV}{h:List (Nat×Blk)}{out:Option (AV×List (Nat×Blk))}(hf:FnP cx pv f args1 h out)(e:args1=args.map dn2):FnP cx pv f args h out:=by
 subst e;refine⟨hf.1,λO w σ vs hO hG hGO hdis hH hsz hrep=>hf.2 O w σ vs hO hG hGO hdis hH (by rw[ao];exact hsz) λj c hj=>?_⟩;rw[aN]at hj;cases hc:args[j]? with
 |none=>rw[hc]at hj;cases hj
 |some c' =>rw[hc]at hj;cases hj;exact vE (hrep j c' hc)
end NQ
namespace Go.Proofs.YtodofogcincleaaGreatDoor
open NQ Go NP Go.RowKit
theorem KO(z:aB)(hn:z.sets.length<=100000)(hs:∀s∈z.sets,s.set.data.length<=100000/\s.sigs.length<=100000):NQ.Fn Dq 131 [.agg (aG z)] (.agg ((aG z).map .d)) [] :=
 iB (FnP.PB 90020 (jt z hn hs) rfl rfl)
def EC(o:aX)(host:Int)(z:aB):aX:={o with puts:=o.puts++[⟨host,z⟩]}
noncomputable def Aj:Cx:={cx with bld:=[15]}
theorem Pf:ba Aj:=aV
theorem Az:Aj.P.follows .mixedOrders=true:=mixed
theorem pD(o:aX)(host:Int)(z:aB)(hz:ZSm z)(hp:o.puts.length<=100000):FnP Aj pvW 114 [.ptr 100034 0,.d (.int .i64 host),.agg ((aG z).map .d)] (bg o) (some (.tuple [],bg (EC o host z))):=by
 refine aT [] (fun|_=>[]) Pf Az Tryz.func114 (by kernel_rfl) rfl (ag rfl) (ag rfl) rfl ?_
 conv=>whnf
 (refine⟨(by kernel_rfl:bC _ _=true),?_⟩;conv=>whnf)
 (refine⟨_,_,KO z (by have:=hz.1;omega) hz.2,?_⟩;conv=>whnf)
 refine⟨by simp;omega,by simp;omega,?_⟩
 conv=>whnf
 have e:(o.puts.map aC)++[[.int .i64 host,.str z.apex,.slice 5 (z.sets.map ak)]]=(EC o host z).puts.map aC:=by
  unfold EC;rw[List.map_append];rfl
 exact .inl ⟨[],ah.keep trivial ⟨⟨rfl,rfl⟩,⟨rfl,rfl⟩,⟨congrArg (λr=>some (Blk.row 45 3 r)) e,rfl⟩,⟨rfl,rfl⟩,trivial⟩,rfl⟩
noncomputable def xp:Cx:={cx with chg:=fY [(114,9)],bld:=[15]}
theorem Sr:ba xp:=aV
theorem Hj:xp.P.follows .mixedOrders=true:=mixed
theorem EO(o:aX)(host:Int)(apex:Bs)(hp:o.puts.length<=100000):FnP xp pvW 122 [.ptr 100034 0,.d (.int .i64 host),.d (.str apex)] (bg o) (some (.tuple [],bg (EC o host ⟨apex,[]⟩))):=by
 refine aT [] (fun|_=>[33333]) Sr Hj Tryz.func122 (by kernel_rfl) rfl (ag rfl) (ag rfl) rfl ?_
 conv=>whnf
 have hP:=FnP.vR (args:=[.ptr 100034 0,.d (.int .i64 host),.agg [.d (.str apex),.nil 5]]) (bx (cx' :=xp) rfl rfl (pD o host ⟨apex,[]⟩ ⟨by simp,by simp⟩ hp)) rfl;refine⟨[],_,hP,⟨rfl,rfl,rfl⟩,?_⟩
 conv=>whnf
 refine aA ?_
 conv=>whnf
 exact .inl ⟨[],ah.keep trivial,rfl⟩
theorem wJ(k:dy):FnP Aj pv0 123 [.agg ((cQ k).map .d)] [] (some (.own 90050,[(90050,.row 70 3 [aI ⟨[],k.n,k.alg⟩])])):=by
 refine aT [] (fun|_=>[]) Pf Az Tryz.func123 (by kernel_rfl) rfl (ag rfl) (ag rfl) rfl ?_
 conv=>whnf
 exact fo (ah.name 8 90050 rfl rfl) rfl rfl rfl
theorem nS(k:dy):FnP Aj pv0 123 [.agg ((cQ k).map .d)] [] (some (.d (.slice 3 [aI ⟨[],k.n,k.alg⟩]),[])):=FnP.PB 90050 (wJ k) rfl rfl
theorem DP(o:aX)(cut:Bs)(l:List Int):FnP Aj pv0 118 [.ptr 100034 0,.d (.str cut),.d (.slice 1 (l.map cK))] (bg o) (some (.fn 185 [] [.d (.ptr [.slice 1 (l.map cK)]),.ptr 90003 0,.d (.ptr [.str cut])],(90003,.box [.ptr 100034 0])::bg o)):=by
 refine aT [] (fun|1=>[4,5]|_=>[]) Pf Az Tryz.func118 (by kernel_rfl) rfl (ag rfl) (ag rfl) rfl ?_
 conv=>whnf
 exact fo (ah.name 3 90003 rfl rfl) rfl rfl rfl
end Go.Proofs.YtodofogcincleaaGreatDoor
namespace NP
open NQ Go
def cA(z:aB)(l:List ai):List ai:=(l.filter λp=>p.zone.apex==z.apex).map λp=>⟨p.host,z⟩
def cS(z:aB)(l:List Int):List ai:=l.map λn=>⟨n,z⟩
def bu(g:List (Bs×List Int))(a:Bs):List Int:=(bf a g).getD []
theorem tC(a:Bs):∀g:List (Bs×List Int),bf a (gn g)=(bf a g).map λl=> .slice 1 (l.map cK)
 |[]=>rfl
 |(k,l)::t=>by
  have:=tC a t;show(if a=k then _ else bf a (gn t))=Option.map _ (if a=k then _ else bf a t)
  rw[this];split <;> rfl
end NP
namespace Go.Proofs.YtodofogcincleaaGreatDoor
open NQ Go NP Go.RowKit
def aJ(o:aX)(z:aB):aX:={o with puts:=o.puts++cA z o.w.zones++cS z (bu o.got z.apex)}
set_option maxHeartbeats 2000000 in
theorem jI(o:aX)(z:aB)(hz:ZSm z)(hn:o.w.zones.length<=1000)(hp:o.puts.length<=10000)(hg:(bu o.got z.apex).length<=1000):FnP xp pvW 119 [.ptr 100034 0,.agg ((aG z).map .d)] (bg o) (some (.tuple [],bg (aJ o z))):=by
 refine aT [] (fun|5=>[33333]|10=>[33333]|_=>[]) Sr Hj Tryz.func119 (by kernel_rfl) rfl (ag rfl) (ag rfl) rfl ?_
 conv=>whnf
 refine⟨Nat×List ai,λq=>⟨[(0,.ptr 100034 0),(3,.ptr 3 0),(12,.d (.slice 3 (o.w.zones.map aC))),(13,.d (.int .i64 ((o.w.zones.map aC).length:Int))),(14,.d (.int .i64 q.1))],(3,.box ((aG z).map .d))::bg {o with puts:=q.2}⟩,
  λq=>q.1<=o.w.zones.length/\q.2++cA z (o.w.zones.drop q.1)=o.puts++cA z o.w.zones/\q.2.length<=o.puts.length+q.1,λq=>o.w.zones.length-q.1,⟨(0,o.puts),⟨Nat.zero_le _,rfl,Nat.le_refl _⟩,ah.keep⟩,?_⟩
 rintro⟨k,ps⟩ ⟨hk,hs,hl⟩;dsimp only at hk hs hl
 conv=>whnf
 refine af (λh1=>?_) (λh1=>?_) <;> (rw[h1];conv=>whnf)
 . have hlt:k<o.w.zones.length:=by simp at h1;omega
   obtain⟨p,hpk⟩:∃p,o.w.zones[k]? =some p:=⟨_,aj hlt⟩
   have hd:cA z (o.w.zones.drop k)=(if (p.zone.apex==z.apex)=true then[⟨p.host,z⟩]else[])++cA z (o.w.zones.drop (k+1)):=by
    rw[drop_cons hpk];unfold cA;rw[List.filter_cons];split <;> rfl
   rw[hd, <- List.append_assoc]at hs;refine⟨aw k,aC p,aD hpk,?_⟩
   conv=>whnf
   refine af (λh2=>?_) (λh2=>?_) <;> (rw[h2];conv=>whnf)
   . rw[if_pos (show(p.zone.apex==z.apex)=true from h2)]at hs;have hP:=bx (cx' :=xp) rfl rfl (pD {o with puts:=ps} p.host z hz (by dsimp only;omega));refine⟨[3,5],_,hP,⟨rfl,rfl,rfl⟩,?_⟩
     conv=>whnf
     refine aA ?_
     conv=>whnf
     exact⟨(k+1,ps++[⟨p.host,z⟩]),⟨hlt,hs,by simp;omega⟩,by(show o.w.zones.length-(k+1)<o.w.zones.length-k;omega),ah.keep ⟨ae,ae,ae,ae,⟨an (k:=k) (by omega),rfl⟩,trivial⟩⟩
   . rw[if_neg (show ¬(p.zone.apex==z.apex)=true by rw[h2];decide),List.append_nil]at hs;exact⟨(k+1,ps),⟨hlt,hs,by dsimp only;omega⟩,by(show o.w.zones.length-(k+1)<o.w.zones.length-k;omega),ah.keep ⟨ae,ae,ae,ae,⟨an (k:=k) (by omega),rfl⟩,trivial⟩⟩
 . obtain rfl:k=o.w.zones.length:=by simp at h1;omega
   rw[List.drop_length]at hs;have hs:ps=o.puts++cA z o.w.zones:=by rw[<- hs];exact(List.append_nil _).symm
   subst hs
   (refine⟨(by kernel_rfl:bC _ _=true),?_⟩;conv=>whnf)
   have hsm:=tC z.apex o.got;have hga:bu o.got z.apex=(bf z.apex o.got).getD []:=rfl;cases hf:bf z.apex o.got with
   |none =>
    rw[hf]at hsm hga;rw[show bf z.apex (gn o.got)=none from hsm]
    conv=>whnf
    have e:(o.puts++cA z o.w.zones:List ai)=(aJ o z).puts:=by unfold aJ;rw[hga];simp[cS]
    refine⟨Unit,λ_=>⟨[(37,.d (.int .i64 0)),(38,.d (.int .i64 0))],bg {o with puts:=o.puts++cA z o.w.zones}⟩,λ_=>True,λ_=>0,⟨(),trivial,ah.keep⟩,λ_ _=>?_⟩
    conv=>whnf
    refine .inl ⟨[],ah.keep trivial ⟨⟨rfl,rfl⟩,⟨rfl,rfl⟩,⟨congrArg (λr:List ai=>some (Blk.row 45 3 (r.map aC))) e,rfl⟩,⟨rfl,rfl⟩,trivial⟩,rfl⟩
   |some l =>
    rw[hf]at hsm hga;have hga:bu o.got z.apex=l:=hga;rw[hga]at hg;rw[show bf z.apex (gn o.got)=some (.slice 1 (l.map cK))from hsm]
    conv=>whnf
    refine⟨Nat,λk=>⟨[(0,.ptr 100034 0),(3,.ptr 3 0),(36,.d (.slice 1 (l.map cK))),(37,.d (.int .i64 ((l.map cK).length:Int))),(38,.d (.int .i64 k))],(3,.box ((aG z).map .d))::bg {o with puts:=o.puts++cA z o.w.zones++cS z (l.take k)}⟩,
     λk=>k<=l.length,λk=>l.length-k,⟨0,Nat.zero_le _,ah.keep (by repeat' (first|exact trivial|refine⟨⟨rfl,rfl⟩,?_⟩)) ⟨⟨rfl,rfl⟩,⟨rfl,rfl⟩,⟨rfl,rfl⟩,⟨congrArg (λr:List ai=>some (Blk.row 45 3 (r.map aC))) (by simp[cS]),rfl⟩,⟨rfl,rfl⟩,trivial⟩⟩,λk hk=>?_⟩
    conv=>whnf
    refine af (λh2=>?_) (λh2=>?_) <;> (rw[h2];conv=>whnf)
    . have hlt:k<l.length:=by simp at h2;omega
      obtain⟨n,hnk⟩:∃n,l[k]? =some n:=⟨_,aj hlt⟩
      refine⟨aw k,cK n,aD hnk,?_⟩
      conv=>whnf
      have hlen:(cA z o.w.zones).length<=o.w.zones.length:=by unfold cA;rw[ao];exact List.length_filter_le ..
      have hP:=bx (cx' :=xp) rfl rfl (pD {o with puts:=o.puts++cA z o.w.zones++cS z (l.take k)} n z hz (by simp[cS];omega));refine⟨[3],_,hP,⟨rfl,rfl,rfl⟩,?_⟩
      conv=>whnf
      refine aA ?_
      conv=>whnf
      have e:(o.puts++cA z o.w.zones++cS z (l.take k))++[⟨n,z⟩]=o.puts++cA z o.w.zones++cS z (l.take (k+1)):=by
       unfold cS;rw[List.take_add_one,hnk];simp
      exact⟨k+1,hlt,by(show l.length-(k+1)<l.length-k;omega),ah.keep ⟨ae,ae,ae,ae,⟨an (k:=k) (by omega),rfl⟩,trivial⟩ ⟨ae,ae,ae,⟨congrArg (λr:List ai=>some (Blk.row 45 3 (r.map aC))) e,rfl⟩,ae,trivial⟩⟩
    . obtain rfl:k=l.length:=by simp at h2;omega
      have e:(o.puts++cA z o.w.zones++cS z (l.take l.length):List ai)=(aJ o z).puts:=by unfold aJ;rw[hga,List.take_length]
      refine .inl ⟨[],ah.keep trivial ⟨⟨rfl,rfl⟩,⟨rfl,rfl⟩,⟨congrArg (λr:List ai=>some (Blk.row 45 3 (r.map aC))) e,rfl⟩,⟨rfl,rfl⟩,trivial⟩,rfl⟩
end Go.Proofs.YtodofogcincleaaGreatDoor
namespace NP
open NQ Go
def jc(w:aL)(g:List (Bs×List Int))(p:ai):Bool:=(decide ((p.zone.sets.length:Int)>0)&& !w.zones.any (dY p.host p.zone.apex))&& !(bu g p.zone.apex).contains p.host
def jz(w:aL)(g:List (Bs×List Int))(p:ai):List (Bs×List Int):=if jc w g p=true then bS p.zone.apex (bu g p.zone.apex++[p.host]) g else g
def cV(w:aL)(g:List (Bs×List Int))(l:List ai):List (Bs×List Int):=l.foldl (jz w) g
theorem uI{w:aL}{g:List (Bs×List Int)}{l:List ai}{k:Nat}{p:ai}(h:l[k]? =some p):cV w g (l.take (k+1))=jz w (cV w g (l.take k)) p:=by
 unfold cV;rw[List.take_add_one,h,List.foldl_append];rfl
theorem BE(a:Bs)(l:List Int):∀g:List (Bs×List Int),bS a (D.slice 1 (l.map cK)) (gn g)=gn (bS a l g)
 |[]=>rfl
 |(k,x)::t=>by
  have:=BE a l t;show(if a=k then _ else(k,_)::bS a _ (gn t))=gn (if a=k then(k,l)::t else(k,x)::bS a l t)
  rw[this];split <;> rfl
theorem zy(a:Bs):∀m:List (List UInt8×D),bf a (amD m)=(bf a m).map .d
 |[]=>rfl
 |(k,x)::t=>by
  have:=zy a t;show(if a=k then _ else bf a (amD t))=Option.map _ (if a=k then _ else bf a t)
  rw[this];split <;> rfl
theorem GV(a:Bs)(s:Nat)(x:D):∀m:List (List UInt8×D),(bS a (AV.own s) (amD m)).map (λq=>(q.1,gG s x q.2))=amD (bS a x m)
 |[]=>by
  show[(a,gG s x (AV.own s))]=[(a,AV.d x)]
  have:gG s x (AV.own s)= .d x:=by simp[gG]
  rw[this]
 |(k,y)::t=>by
  have:=GV a s x t;show List.map _ (if a=k then(k,AV.own s)::amD t else(k,AV.d y)::bS a (AV.own s) (amD t))=amD (if a=k then(k,x)::t else(k,y)::bS a x t)
  split
  . have h1:gG s x (AV.own s)= .d x:=by simp[gG]
    rw[List.map_cons,h1];have:∀t:List (List UInt8×D),(amD t).map (λq=>(q.1,gG s x q.2))=amD t:=λt=>by
     unfold amD;rw[List.map_map];rfl
    rw[this];rfl
  . rw[List.map_cons,this];rfl
theorem Gz(a:Bs)(s:Nat)(f:AV->Bool)(h1:f (.own s)=true)(h2:∀x,f (.d x)=true):∀m:List (List UInt8×D),(bS a (AV.own s) (amD m)).all (λq=>f q.2)=true
 |[]=>by
  show(f (AV.own s)&&true)=true
  rw[h1];rfl
 |(k,y)::t=>by
  have:=Gz a s f h1 h2 t;have h3:∀t:List (List UInt8×D),(amD t).all (λq=>f q.2)=true:=λt=>by
   unfold amD;rw[List.all_map,ay];intro q _;exact h2 _
  show List.all (if a=k then(k,AV.own s)::amD t else(k,AV.d y)::bS a (AV.own s) (amD t)) _=true
  split
  . rw[List.all_cons,h1,h3];rfl
  . rw[List.all_cons,h2,this];rfl
end NP
namespace Go.Proofs.YtodofogcincleaaGreatDoor
open NQ Go NP Go.RowKit
def gQ(o:aX):aX:=if o.puts=[]then o else{o with got:=cV o.w o.got o.puts,stages:=o.stages++[o.puts],puts:=[]}
noncomputable def sL:Cx:={cx with chg:=fY [(113,10)],bld:=[63,76]}
theorem Sn:ba sL:=aV
theorem Hg:sL.P.follows .mixedOrders=true:=mixed
set_option maxHeartbeats 4000000 in
theorem yx(o:aX)(hn:o.w.zones.length<=1000)(hp:o.puts.length<=100000)(hs:o.stages.length<=1000)(hgl:∀k p,o.puts[k]? =some p->(bu (cV o.w o.got (o.puts.take k)) p.zone.apex).length<=100000)
 (hz:∀p∈o.puts,p.zone.sets.length<=100000) (hok:∀k p,o.puts[k]? =some p->jc o.w (cV o.w o.got (o.puts.take k)) p=true->bf p.zone.apex (cV o.w o.got (o.puts.take k))=none) :
 FnP sL pvW 115 [.ptr 100034 0] (bg o) (some (.tuple [],bg (gQ o))):=by
 refine aT [] (fun|5=>[33333,55555]|6=>[55555,66666]|8=>[55555,90040]|_=>[]) Sn Hg Tryz.func115 (by kernel_rfl) rfl (ag rfl) (ag rfl) rfl ?_
 conv=>whnf
 refine af (λh0=>?_) (λh0=>?_) <;> (rw[h0];conv=>whnf)
 . have hl:o.puts=[]:=by simpa using h0
   have e:gQ o=o:=by unfold gQ;rw[if_pos hl]
   rw[e];exact .inl ⟨[],ah.keep trivial,rfl⟩
 have hne:o.puts≠[]:=by simpa using h0
 have e:gQ o={o with got:=cV o.w o.got o.puts,stages:=o.stages++[o.puts],puts:=[]}:=by unfold gQ;rw[if_neg hne]
 rw[e];refine⟨Nat,λk=>⟨[(0,.ptr 100034 0),(14,.own 90040),(15,.d (.int .i64 ((o.puts.map aC).length:Int))),(16,.d (.int .i64 k))],bg {o with got:=cV o.w o.got (o.puts.take k)}⟩,
  λk=>k<=o.puts.length,λk=>o.puts.length-k,⟨0,Nat.zero_le _,ah.keep⟩,λk hk=>?_⟩
 conv=>whnf
 refine af (λh1=>?_) (λh1=>?_) <;> (rw[h1];conv=>whnf)
 . have hlt:k<o.puts.length:=by simp at h1;omega
   obtain⟨p,hpk⟩:∃p,o.puts[k]? =some p:=⟨_,aj hlt⟩
   have hstep:=uI (w:=o.w) (g:=o.got) hpk;have hgl' :=hgl k p hpk;have hok' :=hok k p hpk;have hzp:=hz p (ar hpk);generalize hgk:cV o.w o.got (o.puts.take k)=g at hstep hgl' hok' ⊢;refine⟨aw k,by(show k<_;rw[ao];exact hlt),?_⟩
   conv=>whnf
   refine⟨aC p,aD hpk,?_⟩
   conv=>whnf
   refine⟨_,ah.keep (sl:=[(0,.ptr 100034 0),(14,.own 90040),(15,.d (.int .i64 ((o.puts.map aC).length:Int))),(16,.d (.int .i64 k)),(3,.ptr 3 0),(4,.d (.str p.zone.apex))]) (h:=(3,.box ((aC p).map .d))::bg {o with got:=g}) (by repeat' (first|exact trivial|refine⟨⟨rfl,rfl⟩,?_⟩)) ⟨⟨rfl,rfl⟩,⟨rfl,rfl⟩,⟨congrArg (λg=>some (Blk.smap (gn g))) hgk,rfl⟩,⟨rfl,rfl⟩,⟨rfl,rfl⟩,trivial⟩,?_⟩
   conv=>whnf
   (refine⟨(by kernel_rfl:bA _=true),?_⟩;conv=>whnf)
   have hskip:jc o.w g p=false->g=cV o.w o.got (o.puts.take (k+1)):=λh=>by rw[hstep];unfold jz;rw[if_neg (by rw[h];decide)]
   have hC:=bB (pv' :=pvW) (bx (cx' :=sL) rfl rfl (ka o.w p.host p.zone.apex (by omega)));have hsm:=tC p.zone.apex g;have hga:bu g p.zone.apex=(bf p.zone.apex g).getD []:=rfl;have hab:jc o.w g p=((decide ((p.zone.sets.length:Int)>0)&& !o.w.zones.any (dY p.host p.zone.apex))&& !(bu g p.zone.apex).contains p.host):=rfl;refine af (λh2=>?_) (λh2=>?_) <;> (rw[h2];conv=>whnf)
   . have h2:decide ((p.zone.sets.length:Int)>0)=true:=by simpa using h2
     rw[h2]at hab;generalize o.w.zones.any (dY p.host p.zone.apex)=b at hC hab;refine⟨[3,100034,90032,90040,90041],_,hC,⟨rfl,rfl,rfl⟩,?_⟩
     conv=>whnf
     refine aA ?_
     conv=>whnf
     cases b with
     |true =>
      have hadd:=hskip (by rw[hab];rfl)
      conv=>whnf
      exact⟨k+1,hlt,by(show o.puts.length-(k+1)<o.puts.length-k;omega),ah.keep ⟨ae,ae,ae,⟨an (k:=k) (by omega),rfl⟩,trivial⟩ ⟨ae,⟨congrArg (λg=>some (Blk.smap (gn g))) hadd,rfl⟩,ae,ae,trivial⟩⟩
     |false =>
     conv=>whnf
     cases hf:bf p.zone.apex g with
     |none =>
      rw[hf]at hsm hga;rw[show bf p.zone.apex (gn g)=none from hsm]
      conv=>whnf
      have hga:bu g p.zone.apex=[]:=hga;rw[hga]at hab
      (refine⟨_,_,jX [] p.host (by simp),?_⟩;conv=>whnf)
      have hadd:cV o.w o.got (o.puts.take (k+1))=bS p.zone.apex [p.host] g:=by rw[hstep];unfold jz;rw[if_pos (by rw[hab];rfl),hga];rfl
      refine⟨_,(ah.keep (sl:=[(0,.ptr 100034 0),(14,.own 90040),(15,.d (.int .i64 ((o.puts.map aC).length:Int))),(16,.d (.int .i64 k)),(3,.ptr 3 0),(4,.d (.str p.zone.apex))]) (h:=(3,.box ((aC p).map .d))::bg {o with got:=g})).trans (aF.Mt 90032 (gn g) rfl).toP,?_⟩
      conv=>whnf
      (refine⟨(by kernel_rfl:bA _=true),?_⟩;conv=>whnf)
      refine⟨none,by rw[zy,hsm];rfl,?_⟩
      conv=>whnf
      repeat (refine And.intro (by kernel_rfl:NQ.viewAt _ _ _ _=NQ.viewAt _ _ _ _) ?_;conv=>whnf)
      refine⟨ag rfl,ag rfl,?_⟩
      conv=>whnf
      repeat (refine And.intro (by kernel_rfl:NQ.viewAt _ _ _ _=NQ.viewAt _ _ _ _) ?_;conv=>whnf)
      have hfz:(bS p.zone.apex (AV.own 64) (amD (gn g))).map (λq=>(q.1,gG 64 (.slice 1 [[.int .i64 p.host]]) q.2))=amD (gn (cV o.w o.got (o.puts.take (k+1)))):=by
       rw[GV,hadd, <- BE];rfl
      refine⟨k+1,hlt,by(show o.puts.length-(k+1)<o.puts.length-k;omega),?_⟩;refine ah.trans (b:=⟨[(0,.ptr 100034 0),(14,.own 90040),(15,.d (.int .i64 ((o.puts.map aC).length:Int))),(16,.d (.int .i64 ((k+1:Nat):Int)))],[(100034,.box (Ox true {o with got:=g})),(90032,.dg (bS p.zone.apex (AV.own 64) (amD (gn g)))),(64,.row 3 1 [[.int .i64 p.host]]),(90040,.row 45 3 (o.puts.map aC)),(90041,.row 40 1 (o.stages.map bV))]⟩) (ah.keep ⟨ae,ae,ae,⟨an (k:=k) (by omega),rfl⟩,trivial⟩ ⟨ae,⟨rfl,Gz _ _ _ rfl (λ_=>rfl) _⟩,ae,ae,ae,trivial⟩) ?_;refine ah.trans (ah.rq [64]) ?_
      refine ah.trans (aF.toP (aF.LP 90032 (gn (cV o.w o.got (o.puts.take (k+1)))) ?_)) ?_
      . exact congrArg (λm=>some (Blk.dg m)) hfz
      . exact ah.keep
     |some l =>
      rw[hf]at hsm hga;have hga:bu g p.zone.apex=l:=hga;rw[show bf p.zone.apex (gn g)=some (.slice 1 (l.map cK))from hsm]
      conv=>whnf
      rw[hga]at hgl'
      (refine⟨_,_,jX l p.host hgl',?_⟩;conv=>whnf)
      cases hc:l.contains p.host with
      |false =>
       have:=hok' (by rw[hab,hga,hc];rfl);rw[hf]at this;cases this
      |true =>
       have hadd:=hskip (by rw[hab,hga,hc];rfl)
       conv=>whnf
       exact⟨k+1,hlt,by(show o.puts.length-(k+1)<o.puts.length-k;omega),ah.keep ⟨ae,ae,ae,⟨an (k:=k) (by omega),rfl⟩,trivial⟩ ⟨ae,⟨congrArg (λg=>some (Blk.smap (gn g))) hadd,rfl⟩,ae,ae,trivial⟩⟩
   . have h2:decide ((p.zone.sets.length:Int)>0)=false:=by simpa using h2
     have hadd:=hskip (by rw[hab,h2];rfl);exact⟨k+1,hlt,by(show o.puts.length-(k+1)<o.puts.length-k;omega),ah.keep ⟨ae,ae,ae,⟨an (k:=k) (by omega),rfl⟩,trivial⟩ ⟨ae,⟨congrArg (λg=>some (Blk.smap (gn g))) hadd,rfl⟩,ae,ae,trivial⟩⟩
 . obtain rfl:k=o.puts.length:=by simp at h1;omega
   have hgF:cV o.w o.got (o.puts.take o.puts.length)=cV o.w o.got o.puts:=by rw[List.take_length]
   refine⟨_,ah.keep (sl:=[(0,.ptr 100034 0)]) (h:=bg {o with got:=cV o.w o.got o.puts}) (by repeat' (first|exact trivial|refine⟨⟨rfl,rfl⟩,?_⟩)) ⟨⟨rfl,rfl⟩,⟨congrArg (λg=>some (Blk.smap (gn g))) hgF,rfl⟩,⟨rfl,rfl⟩,⟨rfl,rfl⟩,trivial⟩,?_⟩
   conv=>whnf
   (refine⟨(by kernel_rfl:bC _ _=true),?_⟩;conv=>whnf)
   refine⟨by simp;omega,by simp;omega,?_⟩
   conv=>whnf
   have est:(o.stages.map bV)++[[.slice 3 (o.puts.map aC)]]=(o.stages++[o.puts]).map bV:=by rw[List.map_append];rfl
   refine fo (ah.trans (b:=⟨[(0,.ptr 100034 0)],[(100034,.box ((bn o.w).map .d++[.d (.int .i64 o.since),.d (.int .i64 o.till),.d (.str o.zone.apex),.d (.slice 5 (o.zone.sets.map ak)),.d (.int .i64 o.life),.omap 90032,.nil 3,.own 90041])),(90032,.smap (gn (cV o.w o.got o.puts))),(90041,.row 40 1 ((o.stages++[o.puts]).map bV))]⟩) (ah.keep (by repeat' (first|exact trivial|refine⟨⟨rfl,rfl⟩,?_⟩)) ⟨⟨rfl,rfl⟩,⟨rfl,rfl⟩,⟨congrArg (λr=>some (Blk.row 40 1 r)) est,rfl⟩,trivial⟩) (ah.iH 100034 13 90040 3 _ 45 3 rfl rfl rfl (by decide))) rfl rfl rfl
abbrev sS(a:Bs):Option (List Int)->List (Bs×List Int)
 |none=>[]
 |some l=>[(a,l)]
abbrev AE(o:aX)(a:Bs):Option (List Int)->List (Nat×Blk)
 |none=>bg {o with got:=[]}
 |some l=>[(100034,.box (Ox true o)),(90032,.dg [(a,.own 90060)]),(90060,.row 3 1 (l.map cK)),(90040,.row 45 3 (o.puts.map aC)),(90041,.row 40 1 (o.stages.map bV))]
set_option maxHeartbeats 4000000 in
theorem wH(o:aX)(a:Bs)(hn:o.w.zones.length<=1000)(hp:o.puts.length<=1000)(hs:o.stages.length<=1000)(hg:o.got=[])(hz:∀p∈o.puts,p.zone.sets.length<=100000)(ha:∀p∈o.puts,p.zone.apex=a) :
 FnP sL pvW 115 [.ptr 100034 0] (bg o) (some (.tuple [],bg (gQ o))):=by
 refine aT [] (fun|5=>[33333,55555]|6=>[55555,66666]|8=>[55555,90040]|_=>[]) Sn Hg Tryz.func115 (by kernel_rfl) rfl (ag rfl) (ag rfl) rfl ?_
 conv=>whnf
 refine af (λh0=>?_) (λh0=>?_) <;> (rw[h0];conv=>whnf)
 . have hl:o.puts=[]:=by simpa using h0
   have e:gQ o=o:=by unfold gQ;rw[if_pos hl]
   rw[e];exact .inl ⟨[],ah.keep trivial,rfl⟩
 have hne:o.puts≠[]:=by simpa using h0
 have e:gQ o={o with got:=cV o.w [] o.puts,stages:=o.stages++[o.puts],puts:=[]}:=by unfold gQ;rw[if_neg hne,hg]
 rw[e];refine⟨Nat×Option (List Int),λq=>⟨[(0,.ptr 100034 0),(14,.own 90040),(15,.d (.int .i64 ((o.puts.map aC).length:Int))),(16,.d (.int .i64 q.1))],AE o a q.2⟩,
  λq=>q.1<=o.puts.length/\cV o.w [] (o.puts.take q.1)=sS a q.2/\(q.2.getD []).length<=q.1,λq=>o.puts.length-q.1,⟨(0,none),⟨Nat.zero_le _,rfl,Nat.le_refl _⟩,ah.keep (by repeat' (first|exact trivial|refine⟨⟨rfl,rfl⟩,?_⟩)) ⟨⟨rfl,rfl⟩,⟨congrArg (λg=>some (Blk.smap (gn g))) hg,rfl⟩,⟨rfl,rfl⟩,⟨rfl,rfl⟩,trivial⟩⟩,?_⟩
 rintro⟨k,g⟩ ⟨hk,hgk,hgl⟩;dsimp only at hk hgk hgl;have hloop:∀p,o.puts[k]? =some p->k<o.puts.length:=λp h=>(aq.1 h).1
 cases g with
 |none =>
  conv=>whnf
  refine af (λh1=>?_) (λh1=>?_) <;> (rw[h1];conv=>whnf)
  . have hlt:k<o.puts.length:=by simp at h1;omega
    obtain⟨p,hpk⟩:∃p,o.puts[k]? =some p:=⟨_,aj hlt⟩
    have hstep:=uI (w:=o.w) (g:=[]) hpk;rw[hgk]at hstep;have hzp:=hz p (ar hpk);have hap:=ha p (ar hpk);subst hap;refine⟨aw k,by(show k<_;rw[ao];exact hlt),?_⟩
    conv=>whnf
    refine⟨aC p,aD hpk,?_⟩
    conv=>whnf
    refine⟨_,ah.keep (sl:=[(0,.ptr 100034 0),(14,.own 90040),(15,.d (.int .i64 ((o.puts.map aC).length:Int))),(16,.d (.int .i64 k)),(3,.ptr 3 0),(4,.d (.str p.zone.apex))]) (h:=(3,.box ((aC p).map .d))::AE o p.zone.apex none),?_⟩
    conv=>whnf
    (refine⟨(by kernel_rfl:bA _=true),?_⟩;conv=>whnf)
    have hskip:jc o.w [] p=false->cV o.w [] (o.puts.take (k+1))=sS p.zone.apex none:=λh=>by rw[hstep];unfold jz;rw[if_neg (by rw[h];decide)]
    have hC:=bB (pv' :=pvW) (bx (cx' :=sL) rfl rfl (ka o.w p.host p.zone.apex (by omega)));have hab:jc o.w [] p=((decide ((p.zone.sets.length:Int)>0)&& !o.w.zones.any (dY p.host p.zone.apex))&& !([]:List Int).contains p.host):=rfl;refine af (λh2=>?_) (λh2=>?_) <;> (rw[h2];conv=>whnf)
    . have h2:decide ((p.zone.sets.length:Int)>0)=true:=by simpa using h2
      rw[h2]at hab;generalize o.w.zones.any (dY p.host p.zone.apex)=b at hC hab;refine⟨[3,100034,90032,90040,90041],_,hC,⟨rfl,rfl,rfl⟩,?_⟩
      conv=>whnf
      refine aA ?_
      conv=>whnf
      cases b with
      |true =>
       have hadd:=hskip (by rw[hab];rfl)
       conv=>whnf
       exact⟨(k+1,none),⟨hlt,hadd,Nat.zero_le _⟩,by(show o.puts.length-(k+1)<o.puts.length-k;omega),ah.keep ⟨ae,ae,ae,⟨an (k:=k) (by omega),rfl⟩,trivial⟩⟩
      |false =>
      conv=>whnf
      (refine⟨_,_,jX [] p.host (by simp),?_⟩;conv=>whnf)
      have hadd:cV o.w [] (o.puts.take (k+1))=sS p.zone.apex (some [p.host]):=by rw[hstep];unfold jz;rw[if_pos (by rw[hab];rfl)];rfl
      refine⟨_,(ah.keep (sl:=[(0,.ptr 100034 0),(14,.own 90040),(15,.d (.int .i64 ((o.puts.map aC).length:Int))),(16,.d (.int .i64 k)),(3,.ptr 3 0),(4,.d (.str p.zone.apex))]) (h:=(3,.box ((aC p).map .d))::AE o p.zone.apex none)).trans (aF.Mt 90032 [] rfl).toP,?_⟩
      conv=>whnf
      (refine⟨(by kernel_rfl:bA _=true),?_⟩;conv=>whnf)
      refine⟨none,rfl,?_⟩
      conv=>whnf
      repeat (refine And.intro (by kernel_rfl:NQ.viewAt _ _ _ _=NQ.viewAt _ _ _ _) ?_;conv=>whnf)
      refine⟨ag rfl,ag rfl,?_⟩
      conv=>whnf
      repeat (refine And.intro (by kernel_rfl:NQ.viewAt _ _ _ _=NQ.viewAt _ _ _ _) ?_;conv=>whnf)
      refine⟨(k+1,some [p.host]),⟨hlt,hadd,by(show 1<=k+1;omega)⟩,by(show o.puts.length-(k+1)<o.puts.length-k;omega),?_⟩;refine ah.trans (ah.name 64 90060 rfl rfl) ?_;exact ah.keep ⟨ae,ae,ae,⟨an (k:=k) (by omega),rfl⟩,trivial⟩
    . have h2:decide ((p.zone.sets.length:Int)>0)=false:=by simpa using h2
      have hadd:=hskip (by rw[hab,h2];rfl);exact⟨(k+1,none),⟨hlt,hadd,Nat.zero_le _⟩,by(show o.puts.length-(k+1)<o.puts.length-k;omega),ah.keep ⟨ae,ae,ae,⟨an (k:=k) (by omega),rfl⟩,trivial⟩⟩
  . obtain rfl:k=o.puts.length:=by simp at h1;omega
    have hgF:cV o.w [] o.puts=[]:=by rw[List.take_length]at hgk;exact hgk
    rw[hgF];refine⟨_,ah.keep (sl:=[(0,.ptr 100034 0)]) (h:=bg {o with got:=[]}),?_⟩
    conv=>whnf
    (refine⟨(by kernel_rfl:bC _ _=true),?_⟩;conv=>whnf)
    refine⟨by simp;omega,by simp;omega,?_⟩
    conv=>whnf
    have est:(o.stages.map bV)++[[.slice 3 (o.puts.map aC)]]=(o.stages++[o.puts]).map bV:=by rw[List.map_append];rfl
    refine fo (ah.trans (b:=⟨[(0,.ptr 100034 0)],[(100034,.box ((bn o.w).map .d++[.d (.int .i64 o.since),.d (.int .i64 o.till),.d (.str o.zone.apex),.d (.slice 5 (o.zone.sets.map ak)),.d (.int .i64 o.life),.omap 90032,.nil 3,.own 90041])),(90032,.smap []),(90041,.row 40 1 ((o.stages++[o.puts]).map bV))]⟩) (ah.keep (by repeat' (first|exact trivial|refine⟨⟨rfl,rfl⟩,?_⟩)) ⟨⟨rfl,rfl⟩,⟨rfl,rfl⟩,⟨congrArg (λr=>some (Blk.row 40 1 r)) est,rfl⟩,trivial⟩) (ah.iH 100034 13 90040 3 _ 45 3 rfl rfl rfl (by decide))) rfl rfl rfl
 |some l =>
  have hl2:l.length<=1000:=by have:l.length<=k:=hgl;omega
  conv=>whnf
  refine af (λh1=>?_) (λh1=>?_) <;> (rw[h1];conv=>whnf)
  . have hlt:k<o.puts.length:=by simp at h1;omega
    obtain⟨p,hpk⟩:∃p,o.puts[k]? =some p:=⟨_,aj hlt⟩
    have hstep:=uI (w:=o.w) (g:=[]) hpk;rw[hgk]at hstep;have hzp:=hz p (ar hpk);have hap:=ha p (ar hpk);subst hap;have hga:bu (sS p.zone.apex (some l)) p.zone.apex=l:=by
     unfold bu;show Option.getD (if p.zone.apex=p.zone.apex then some l else none) []=l
     rw[if_pos rfl];rfl
    refine⟨aw k,by(show k<_;rw[ao];exact hlt),?_⟩
    conv=>whnf
    refine⟨aC p,aD hpk,?_⟩
    conv=>whnf
    refine⟨_,ah.keep (sl:=[(0,.ptr 100034 0),(14,.own 90040),(15,.d (.int .i64 ((o.puts.map aC).length:Int))),(16,.d (.int .i64 k)),(3,.ptr 3 0),(4,.d (.str p.zone.apex))]) (h:=(3,.box ((aC p).map .d))::AE o p.zone.apex (some l)),?_⟩
    conv=>whnf
    (refine⟨(by kernel_rfl:bA _=true),?_⟩;conv=>whnf)
    have hskip:jc o.w (sS p.zone.apex (some l)) p=false->cV o.w [] (o.puts.take (k+1))=sS p.zone.apex (some l):=λh=>by rw[hstep];unfold jz;rw[if_neg (by rw[h];decide)]
    have hC:=bB (pv' :=pvW) (bx (cx' :=sL) rfl rfl (ka o.w p.host p.zone.apex (by omega)));have hab:jc o.w (sS p.zone.apex (some l)) p=((decide ((p.zone.sets.length:Int)>0)&& !o.w.zones.any (dY p.host p.zone.apex))&& !(bu (sS p.zone.apex (some l)) p.zone.apex).contains p.host):=rfl;rw[hga]at hab;have hfd:bf p.zone.apex [(p.zone.apex,AV.own 90060)]=some (.own 90060):=if_pos rfl;refine af (λh2=>?_) (λh2=>?_) <;> (rw[h2];conv=>whnf)
    . have h2:decide ((p.zone.sets.length:Int)>0)=true:=by simpa using h2
      rw[h2]at hab;generalize o.w.zones.any (dY p.host p.zone.apex)=b at hC hab;refine⟨[3,100034,90032,90040,90041,90060],_,hC,⟨rfl,rfl,rfl⟩,?_⟩
      conv=>whnf
      refine aA ?_
      conv=>whnf
      cases b with
      |true =>
       have hadd:=hskip (by rw[hab];rfl)
       conv=>whnf
       exact⟨(k+1,some l),⟨hlt,hadd,by(show l.length<=k+1;have:l.length<=k:=hgl;omega)⟩,by(show o.puts.length-(k+1)<o.puts.length-k;omega),ah.keep ⟨ae,ae,ae,⟨an (k:=k) (by omega),rfl⟩,trivial⟩⟩
      |false =>
      conv=>whnf
      refine⟨_,hfd,?_⟩
      conv=>whnf
      refine⟨_,jX l p.host (by omega),by kernel_rfl,?_⟩
      conv=>whnf
      cases hc:l.contains p.host with
      |true =>
       have hadd:=hskip (by rw[hab,hc];rfl)
       conv=>whnf
       exact⟨(k+1,some l),⟨hlt,hadd,by(show l.length<=k+1;have:l.length<=k:=hgl;omega)⟩,by(show o.puts.length-(k+1)<o.puts.length-k;omega),ah.keep ⟨ae,ae,ae,⟨an (k:=k) (by omega),rfl⟩,trivial⟩⟩
      |false =>
      conv=>whnf
      have hadd:cV o.w [] (o.puts.take (k+1))=sS p.zone.apex (some (l++[p.host])):=by
       rw[hstep];unfold jz;rw[if_pos (by rw[hab,hc];rfl),hga];show(if p.zone.apex=p.zone.apex then _ else _)=_
       rw[if_pos rfl]
      have hpu:bS p.zone.apex (AV.own 90060) [(p.zone.apex,AV.undef)]=[(p.zone.apex,AV.own 90060)]:=if_pos rfl;refine⟨_,ah.keep (sl:=[(0,.ptr 100034 0),(14,.own 90040),(15,.d (.int .i64 ((o.puts.map aC).length:Int))),(16,.d (.int .i64 k)),(3,.ptr 3 0),(4,.d (.str p.zone.apex))]) (h:=(3,.box ((aC p).map .d))::AE o p.zone.apex (some l)),?_⟩
      conv=>whnf
      (refine⟨(by kernel_rfl:bA _=true),?_⟩;conv=>whnf)
      refine⟨_,hfd,?_⟩
      conv=>whnf
      repeat (refine And.intro (by kernel_rfl:NQ.viewAt _ _ _ _=NQ.viewAt _ _ _ _) ?_;conv=>whnf)
      refine⟨by simp;omega,by simp;omega,?_⟩
      conv=>whnf
      repeat (refine And.intro (by kernel_rfl:NQ.viewAt _ _ _ _=NQ.viewAt _ _ _ _) ?_;conv=>whnf)
      have erow:(l.map cK)++[[.int .i64 p.host]]=(l++[p.host]).map cK:=by rw[List.map_append];rfl
      exact⟨(k+1,some (l++[p.host])),⟨hlt,hadd,by(show(l++[p.host]).length<=k+1;have:l.length<=k:=hgl;simp;omega)⟩,by(show o.puts.length-(k+1)<o.puts.length-k;omega),ah.keep ⟨ae,ae,ae,⟨an (k:=k) (by omega),rfl⟩,trivial⟩ ⟨ae,⟨congrArg (λm=>some (Blk.dg m)) hpu,rfl⟩,⟨congrArg (λr=>some (Blk.row 3 1 r)) erow,rfl⟩,ae,ae,trivial⟩⟩
    . have h2:decide ((p.zone.sets.length:Int)>0)=false:=by simpa using h2
      have hadd:=hskip (by rw[hab,h2];rfl);exact⟨(k+1,some l),⟨hlt,hadd,by(show l.length<=k+1;have:l.length<=k:=hgl;omega)⟩,by(show o.puts.length-(k+1)<o.puts.length-k;omega),ah.keep ⟨ae,ae,ae,⟨an (k:=k) (by omega),rfl⟩,trivial⟩⟩
  . obtain rfl:k=o.puts.length:=by simp at h1;omega
    have hgF:cV o.w [] o.puts=[(a,l)]:=by rw[List.take_length]at hgk;exact hgk
    rw[hgF];refine⟨_,ah.trans (ah.keep (sl:=[(0,.ptr 100034 0)]) (h:=AE o a (some l))) (ah.rq [90060]),?_⟩
    conv=>whnf
    (refine⟨(by kernel_rfl:bC _ _=true),?_⟩;conv=>whnf)
    refine⟨by simp;omega,by simp;omega,?_⟩
    conv=>whnf
    have est:(o.stages.map bV)++[[.slice 3 (o.puts.map aC)]]=(o.stages++[o.puts]).map bV:=by rw[List.map_append];rfl
    refine fo (ah.trans (b:=⟨[(0,.ptr 100034 0)],[(100034,.box ((bn o.w).map .d++[.d (.int .i64 o.since),.d (.int .i64 o.till),.d (.str o.zone.apex),.d (.slice 5 (o.zone.sets.map ak)),.d (.int .i64 o.life),.omap 90032,.nil 3,.own 90041])),(90032,.dg (amD (gn [(a,l)]))),(90041,.row 40 1 ((o.stages++[o.puts]).map bV))]⟩) (ah.keep (by repeat' (first|exact trivial|refine⟨⟨rfl,rfl⟩,?_⟩)) ⟨⟨rfl,rfl⟩,⟨rfl,rfl⟩,⟨congrArg (λr=>some (Blk.row 40 1 r)) est,rfl⟩,trivial⟩) (ah.trans (aF.toP (aF.LP 90032 (gn [(a,l)]) rfl)) (ah.iH 100034 13 90040 3 _ 45 3 rfl rfl rfl (by decide)))) rfl rfl rfl
end Go.Proofs.YtodofogcincleaaGreatDoor
namespace NQ
open Go Go.RowKit
theorem IM{cx:Cx}{pv:Int->Value}{f:FuncId}{e:TypeId}{sz s:Nat}{rows rows' :List (List D)}{fl fl' :Bool}{args:List D}(h:FnP cx pv f (.own s::args.map .d) [(s,.row e sz rows fl)] (some (.own s,[(s,.row e sz rows' fl')]))):FnR cx f true e sz rows fl args rows' :=by
 refine⟨h.1,λO w v vs xs hO hG hGO hv h1 h2 h3 h4 h5 h6 h7=>?_⟩;have hl1:∀{b:Blk} {x:Nat},live [(s,b)] x ↔ x=s:=λ{b x}=>bH
 have hH:∀{b:Blk} {τ:Nat->Value} {g:Nat},di [(s,b)] τ g ↔ home (τ s)=some g:=λ{b τ g}=>by
  constructor
  . rintro⟨x,hx,e⟩;rw[hl1.1 hx]at e;exact e
  . intro e;exact⟨s,hl1.2 rfl,e⟩
 have hk:∀{b:Blk},aU w w O (Own (λb=>O b/\home v≠some b) (live [(s,b)]) λ_=>v):=λ{b}=>aU.less λb hb=>by
  rcases hb with hb|⟨x,_,e⟩
  . exact hb.1
  . exact hv b e
 refine(h.2 (λb=>O b/\home v≠some b) w (λ_=>v) (#[v]++vs) (λb hb=>hO b hb.1) hG (λg cells hg=>⟨λhb=>hGO g cells hg hb.1,λhb=>hGO g cells hg (hv g (hH.1 hb))⟩) (λb hb hh=>hb.2 (hH.1 hh)) ⟨λx b hb=>?_,λx y b hx hy _ _=>by rw[hl1.1 hx,hl1.1 hy]⟩ (by simp[h6,Nat.add_comm]) λj c hj=>?_).mono λen w' =>?_
 . have hx:x=s:=hl1.1 (ax.2 ⟨b,hb⟩);subst hx;rw[aP]at hb;cases hb;refine⟨xs,h1,λb hb=>hH.2 hb,⟨h3,h2⟩,h4,λi r j d hi hj=>?_⟩;obtain⟨u,hu,hd⟩:=h5 i r j d hi hj;exact⟨u,hu,hd.mono hk⟩
 . rcases j with _|j
   . cases hj;have:(#[v]++vs).getD 0 Go.undef=v:=by simp[bp,Array.getElem?_append]
     rw[this];exact .own (σ:=λ_=>v) s (hl1.2 rfl)
   . rw[List.getElem?_cons_succ,aN]at hj;cases hd:args[j]? with
     |none=>rw[hd]at hj;cases hj
     |some d =>
      rw[hd]at hj;cases hj;have hlt:j<vs.size:=by rw[h6];exact(aq.1 hd).1
      have:(#[v]++vs).getD (j+1) Go.undef=vs.getD j Go.undef:=by simp[Array.getElem?_append,bp]
      rw[this];exact .d _ _ ((h7 j d hd).mono hk)
 . rintro⟨hf,u,σ',rfl,hho,_,hr⟩;obtain⟨xs',q1,q2,q3,q4,q5⟩:=hho.blk s _ (aP ..);have hu:u=σ' s:=by generalize hz:σ' s=z;cases hr;exact hz
   subst hu;refine⟨σ' s,xs',rfl,hf.os,hf.tape,hf.output,hf.size,λk hk hne=>hf.block k λhh=>?_,λg hg=>?_,q1,q4,λi r j d hi hj=>?_⟩
   . rcases hh with hh|hh
     . exact hne (hH.1 hh)
     . omega
   . rcases q2 g hg with hh|hh
     . exact .inl (hH.1 hh)
     . exact .inr hh
   . obtain⟨u,hu,hd⟩:=q5 i r j d hi hj;refine⟨u,hu,hd.mono (aU.less λb hb=>?_)⟩;rcases hb with hb|hb
     . exact .inl hb
     . exact .inr ⟨s,hl1.2 rfl,hb⟩
end NQ
namespace NQ
open Go
theorem FnR.Sx{cx:Cx}{f:FuncId}{give:Bool}{e:TypeId}{sz:Nat}{rows:List (List D)}{fl:Bool}{args:List D}{rows' :List (List D)}(h:FnR cx f give e sz rows false args rows'):FnR cx f give e sz rows fl args rows' :=⟨h.1,λO w v vs xs a b c d e' f' =>h.2 O w v vs xs a b c d e' (λh=>by cases h)⟩
end NQ
namespace NP
open NQ Go
def du:List Datum->List Datum
 |[]=>[]
 |[a]=>[a]
 |a::b::t=>if a=b then du (b::t)else a::du (b::t)
def lE(l:List Datum)(m:Nat):List Datum:=((List.range m).filter λj=>decide (j=0)|| !decide (l[j]? =l[j-1]?)).filterMap (l[·]?)
theorem Ba(l:List Datum)(m:Nat):lE l (m+1)=lE l m++(if decide (m=0)|| !decide (l[m]? =l[m-1]?)then l[m]?.toList else[]):=by
 unfold lE;rw[List.range_succ,List.filter_append,List.filterMap_append]
 congr 1
 by_cases h:(decide (m=0)|| !decide (l[m]? =l[m-1]?))=true
 . rw[if_pos h,List.filter_cons,if_pos h];cases hm:l[m]? <;> simp[hm]
 . rw[if_neg h,List.filter_cons,if_neg h];rfl
theorem AZ(a:Datum)(t:List Datum):∀m,lE (a::t) (m+1)=a::(((List.range m).filter λj=> !decide (t[j]? =(a::t)[j]?)).filterMap (t[·]?)):=by
 intro m;unfold lE;rw[List.range_succ_eq_map,List.filter_cons_of_pos (by simp),List.filterMap_cons_some (b:=a) (by simp),List.filter_map,List.filterMap_map]
 congr 1
theorem vH(a b:Datum):(a.text==b.text&&(a.n==b.n&&(a.m==b.m&&true)))=decide (a=b):=by
 cases a with|mk t n m =>
 cases b with|mk t' n' m' =>
 simp only[jm,Datum.mk.injEq];by_cases h1:t=t' <;> by_cases h2:n=n' <;> by_cases h3:m=m' <;> simp[h1,h2,h3]
theorem Ng(l:List Datum)(h:1<=l.length):lE l 1=l.take 1:=by
 match l,h with
 |a::t,_=>rfl
theorem Dh{l:List Datum}{m:Nat}{a b:Datum}(ha:l[m]? =some a)(hb:l[m-1]? =some b)(h:a≠b):lE l (m+1)=lE l m++[a]:=by
 rw[Ba,ha,hb,if_pos (by simp[h])];rfl
theorem Di{l:List Datum}{m:Nat}{a b:Datum}(hm:1<=m)(ha:l[m]? =some a)(hb:l[m-1]? =some b)(h:a=b):lE l (m+1)=lE l m:=by
 rw[Ba,ha,hb,if_neg (by simp[h];omega),List.append_nil]
theorem oI:∀l:List Datum,lE l l.length=du l
 |[]=>rfl
 |[a]=>rfl
 |a::b::t=>by
  have ih:=oI (b::t);show lE (a::b::t) (t.length+1+1)=_
  rw[List.length_cons]at ih;rw[AZ,List.range_succ_eq_map];rw[AZ]at ih;show _=if a=b then du (b::t)else a::du (b::t)
  have hrest:List.filterMap (λx=>(b::t)[x]?) (List.filter (λj=> !decide ((b::t)[j]? =(a::b::t)[j]?)) (List.map Nat.succ (List.range t.length)))=List.filterMap (λx=>t[x]?) (List.filter (λj=> !decide (t[j]? =(b::t)[j]?)) (List.range t.length)):=by
   rw[List.filter_map,List.filterMap_map];rfl
  by_cases e:a=b
  . subst e;rw[if_pos rfl,List.filter_cons_of_neg (by simp),hrest,ih]
  . rw[if_neg e,List.filter_cons_of_pos (by simpa using λh=>e h.symm),List.filterMap_cons_some (b:=b) (by simp),hrest,ih]
end NP
namespace Go.Proofs.YtodofogcincleaaGreatDoor
open NQ Go NP Go.RowKit
noncomputable def Nq:Cx:={cx with bld:=[777001]}
theorem SX:ba Nq:=aV
theorem QF:Nq.P.follows .mixedOrders=true:=mixed
set_option maxHeartbeats 4000000 in
theorem Dk(l:List Datum)(hl:l.length<=100000)(fl:Bool):FnR cx 126 true 70 3 (l.map aI) fl [] ((du l).map aI):=by
 refine FnR.Sx (RJ (cx:=Nq) rfl rfl (IM (pv:=pv0) (s:=90020) (fl' :=false) ?_));refine aT [] (fun|7=>[33333]|14=>[33333]|15=>[33333]|_=>[]) SX QF Tryz.func126 (by kernel_rfl) rfl (ag rfl) (ag rfl) rfl ?_
 conv=>whnf
 refine af (λh1=>?_) (λh1=>?_) <;> (rw[h1];conv=>whnf)
 . have h2:l.length<2:=by simp at h1;omega
   have h3:du l=l:=by
    match l,h2 with
    |[],_=>rfl
    |[a],_=>rfl
   rw[h3];exact bF rfl rfl rfl
 have h2:2<=l.length:=by simp at h1;omega
 refine⟨Nat,λk=>⟨[(0,.own 90020),(3,.d (.int .i64 k))],[(90020,.row 70 3 (l.map aI))]⟩,λk=>1<=k/\k<=l.length/\lE l k=l.take k,λk=>l.length-k,
  ⟨1,⟨Nat.le_refl _,by omega,?_⟩,ah.keep ⟨ae,ae,trivial⟩⟩,?_⟩
 . exact Ng l (by omega)
 rintro k ⟨hk1,hk,hc⟩
 conv=>whnf
 refine af (λh3=>?_) (λh3=>?_) <;> (rw[h3];conv=>whnf)
 . have hlt:k<l.length:=by simp at h3;omega
   obtain⟨a,ha⟩:∃a,l[k]? =some a:=⟨_,aj hlt⟩
   obtain⟨b,hb⟩:∃b,l[k-1]? =some b:=⟨_,aj (by omega)⟩
   have hw1:∀q:Nat,1<=q->q<=100000->IntKind.i64.wrap ((q:Int)-1)=((q-1:Nat):Int):=λq h1 h2=>by
    rw[show((q:Int)-1)=((q-1:Nat):Int) by omega];exact wrap_i64 (by omega) (by omega)
   (refine⟨(by kernel_rfl:bC _ _=true),?_⟩;conv=>whnf)
   refine⟨aw k,by(show k<_;rw[ao];exact hlt),?_⟩
   conv=>whnf
   refine⟨aI a,aD ha,?_⟩
   conv=>whnf
   rw[hw1 k hk1 (by omega)];refine⟨aw _,by(show k-1<_;rw[ao];omega),?_⟩
   conv=>whnf
   refine⟨aI b,aD hb,?_⟩
   conv=>whnf
   refine af (λh4=>?_) (λh4=>?_) <;> (rw[h4];conv=>whnf)
   . have hab:a=b:=by rw[vH]at h4;exact of_decide_eq_true h4
     refine⟨aw k,by(show k<_;rw[ao];exact hlt),?_⟩
     conv=>whnf
     refine⟨Nat×Nat×List Datum,λq=>⟨[(0,.own 90020),(3,.d (.int .i64 q.1)),(4,.tl 90020 3 k),(5,.d (.int .i64 q.2.1))],[(90020,.row 70 3 (q.2.2.map aI))]⟩,
      λq=>(1<=q.2.1/\k+q.2.1<=l.length/\q.1<k+q.2.1)/\q.2.2.length=l.length/\q.2.2.take q.1=lE l (k+q.2.1)/\q.2.2.drop q.1=l.drop q.1,λq=>l.length-q.2.1,
      ⟨(k,1,l),⟨⟨Nat.le_refl _,by dsimp only;omega,by dsimp only;omega⟩,rfl,by dsimp only;rw[Di hk1 ha hb hab,hc],rfl⟩,ah.keep ⟨ae,ae,ae,ae,trivial⟩⟩,?_⟩
     rintro⟨kk,k2,R⟩ ⟨⟨hk2,hke,hkk⟩,hR,hT,hD⟩;dsimp only at hk2 hke hkk hR hT hD;have hget:∀j,kk<=j->R[j]? =l[j]? :=λj hj=>by
      have:=congrArg (λq=>q[j-kk]?) hD;simpa [List.getElem?_drop,show kk+(j-kk)=j by omega] using this
     conv=>whnf
     refine af (λh5=>?_) (λh5=>?_) <;> (rw[h5];conv=>whnf)
     . have hlt2:k+k2<l.length:=by simp[hR]at h5;omega
       obtain⟨x,hx⟩:∃x,l[k+k2]? =some x:=⟨_,aj hlt2⟩
       obtain⟨y,hy⟩:∃y,l[k+k2-1]? =some y:=⟨_,aj (by omega)⟩
       have hx' :R[k+k2]? =some x:=by rw[hget _ (by omega)];exact hx
       have hy' :R[k+(k2-1)]? =some y:=by rw[hget _ (by omega),show k+(k2-1)=k+k2-1 by omega];exact hy
       (refine⟨(by kernel_rfl:bC _ _=true),?_⟩;conv=>whnf)
       refine⟨aw k2,by(show k+k2<_;rw[ao,hR];exact hlt2),?_⟩
       conv=>whnf
       refine⟨aI x,aD hx',?_⟩
       conv=>whnf
       rw[hw1 k2 hk2 (by omega)];refine⟨aw _,by(show k+(k2-1)<_;rw[ao,hR];omega),?_⟩
       conv=>whnf
       refine⟨aI y,aD hy',?_⟩
       conv=>whnf
       refine af (λh6=>?_) (λh6=>?_) <;> (rw[h6];conv=>whnf)
       . have hxy:x≠y:=by rw[vH]at h6;intro e;simp[e]at h6
         refine⟨aw k2,by(show k+k2<_;rw[ao,hR];exact hlt2),?_⟩
         conv=>whnf
         refine⟨aI x,aD hx',?_⟩
         conv=>whnf
         refine⟨aw kk,by(show kk<_;rw[ao,hR];omega),?_⟩
         conv=>whnf
         obtain⟨z,hz⟩:∃z,R[kk]? =some z:=⟨_,aj (by omega)⟩
         refine⟨aI z,aD hz,?_⟩
         conv=>whnf
         refine⟨(kk+1,k2+1,R.set kk x),⟨⟨by dsimp only;omega,by dsimp only;omega,by dsimp only;omega⟩,by(show(R.set kk x).length=_;rw[List.length_set,hR]),?_,?_⟩,by(show l.length-(k2+1)<l.length-k2;omega),ah.keep ⟨ae,⟨an (k:=kk) (by omega),rfl⟩,ae,⟨an (k:=k2) (by omega),rfl⟩,trivial⟩ ⟨⟨congrArg (λr=>some (Blk.row 70 3 r)) (List.map_set (f:=aI) (l:=R) (i:=kk) (a:=x)).symm,rfl⟩,trivial⟩⟩
         . show(R.set kk x).take (kk+1)=lE l (k+k2+1)
           rw[Dh hx hy hxy, <- hT,List.take_add_one,List.getElem?_set_self (by omega),List.take_set_of_le (Nat.le_refl _)];rfl
         . show(R.set kk x).drop (kk+1)=_
           rw[List.drop_set_of_lt (by omega), <- List.drop_drop, <- List.drop_drop,hD]
       . have hxy:x=y:=by rw[vH]at h6;simpa using h6
         refine⟨(kk,k2+1,R),⟨⟨by dsimp only;omega,by dsimp only;omega,by dsimp only;omega⟩,hR,?_,hD⟩,by(show l.length-(k2+1)<l.length-k2;omega),ah.keep ⟨ae,ae,ae,⟨an (k:=k2) (by omega),rfl⟩,trivial⟩⟩;show R.take kk=lE l (k+k2+1)
         rw[Di (by omega) hx hy hxy,hT]
     . have hend:k+k2=l.length:=by simp[hR]at h5;omega
       rw[hend,oI]at hT;refine⟨aw kk,by(show kk<_;rw[ao,hR];omega),?_⟩
       conv=>whnf
       refine⟨by(show kk<_;rw[ao,hR];omega),?_⟩
       conv=>whnf
       refine⟨aw kk,by(show kk<_;rw[List.length_append,List.length_take,List.length_replicate,ao,hR];omega),?_⟩
       conv=>whnf
       have hres:∀z:List D,((R.map aI).take kk++List.replicate ((R.map aI).length-kk) z).take kk=(du l).map aI:=λz=>by
        rw[List.take_append_of_le_length (by rw[List.length_take,ao,hR];omega),List.take_take,Nat.min_self, <- List.map_take,hT]
       refine fo (ah.keep (sl:=[(2,.own 90020)]) (h:=[(90020,.row 70 3 ((du l).map aI))]) (by repeat' (first|exact trivial|refine⟨⟨rfl,rfl⟩,?_⟩)) ⟨⟨congrArg (λr=>some (Blk.row 70 3 r)) (hres _),rfl⟩,trivial⟩) rfl rfl rfl
   . have hab:a≠b:=by rw[vH]at h4;intro e;simp[e]at h4
     refine⟨k+1,⟨by omega,hlt,?_⟩,by(show l.length-(k+1)<l.length-k;omega),ah.keep ⟨ae,⟨an (k:=k) (by omega),rfl⟩,trivial⟩⟩;rw[Dh ha hb hab,hc,List.take_add_one,ha];rfl
 . obtain rfl:k=l.length:=by simp at h3;omega
   have h4:du l=l:=by rw[<- oI,hc,List.take_length]
   rw[h4];exact bF rfl rfl rfl
set_option maxHeartbeats 8000000 in
theorem JE(o:aX)(z:aB)(s:Bs)(c:Int)(f:Int)(d:List Datum)(cut:Bs)(l:List Int)(hz:ZSm z)(hh:∀n∈l,bk o.w n=true)(hl:l.length<=1000)(hd:d.length<=100000)(hst:(wfR (cn o.w o.life cut l (bo z s c f d)) z.apex 4).2=true->(wfR (cn o.w o.life cut l (bo z s c f d)) z.apex 4).1.data≠[]) :
 FnP cO pvW 120 [.ptr 100034 0,.agg ((aG z).map .d),.own 84] ((84,.arow 177 1 [[ku s c f d],[mj l cut]])::gB o) (mr (gB o) (cG o.since o.till (cn o.w o.life cut l (bo z s c f d)))):=by
 refine aT [100004] slF EX se Tryz.func120 (by kernel_rfl) rfl (ag rfl) (ag rfl) rfl ?_
 conv=>whnf
 have hC:=bB (pv' :=pvW) (bx (cx' :=cO) rfl rfl (jt z (by have:=hz.1;omega) hz.2));refine⟨[4,6,84,100003,100034,90032,90040,90041],_,hC,⟨rfl,rfl,rfl⟩,?_⟩
 conv=>whnf
 refine aA ?_
 conv=>whnf
 have hB1:=bB (pv' :=pvW) (bx (cx' :=cO) rfl rfl (dW z s c f d (by have:=hz.1;omega) hd));have hl1:=fX z s c f d;have ha1:(bo z s c f d).apex=z.apex:=rfl;generalize hg1:bo z s c f d=z1 at hB1 hl1 ha1 hst ⊢;have hB2:=bB (pv' :=pvW) (bx (cx' :=cO) rfl rfl (qH o cut l z1 hh hl (by have:=hz.1;omega)));have hl2:=ot o.w o.life cut l z1;have ha2:(cn o.w o.life cut l z1).apex=z1.apex:=dK ..;generalize hg2:cn o.w o.life cut l z1=z2 at hB2 hl2 ha2 hst ⊢
 refine⟨Nat,λk=>⟨[(0,.ptr 100034 0),(4,.ptr 100004 0),(6,.ptr 6 0),(15,.own 84),(16,.d (.int .i64 2)),(17,.d (.int .i64 k))],eS (match k with|0=>z|1=>z1|_=>z2)++(6,.box [.d (.str []),.nil 5])::(84,.arow 177 1 [[ku s c f d],[mj l cut]])::gB o⟩,
  λk=>k<=2,λk=>2-k,⟨0,Nat.zero_le _,(ah.name 4 100004 rfl rfl).trans (ah.keep)⟩,λk hk=>?_⟩
 rcases k with _|_|_|k
 case succ.succ.succ=>omega
 . conv=>whnf
   refine⟨by decide,ag rfl,?_⟩
   conv=>whnf
   refine⟨_,rfl,?_⟩
   conv=>whnf
   refine⟨[6,84,100003,100034,90032,90040,90041],_,hB1,⟨by kernel_rfl,by kernel_rfl,by kernel_rfl⟩,?_⟩
   conv=>whnf
   refine aA ?_
   conv=>whnf
   exact⟨1,by decide,by(show 2-1<2-0;omega),ah.keep⟩
 . conv=>whnf
   refine⟨by decide,ag rfl,?_⟩
   conv=>whnf
   refine⟨_,rfl,?_⟩
   conv=>whnf
   refine⟨[6,84],_,hB2,⟨by kernel_rfl,by kernel_rfl,by kernel_rfl⟩,?_⟩
   conv=>whnf
   refine aA ?_
   conv=>whnf
   exact⟨2,by decide,by(show 2-2<2-1;omega),ah.keep⟩
 have hT:=pk o z2 (by have:=hz.1;omega) (by rw[ha2,ha1];exact hst)
 conv at hT=>whnf
 conv=>whnf
 exact eT hT (ah.keep)
set_option maxHeartbeats 8000000 in
theorem JF(o:aX)(z:aB)(s:Bs)(c:Int)(f:Int)(d:List Datum)(c2:Int)(f2:Int)(d2:List Datum)(c3:Int)(d3:List Datum)(cut:Bs)(l:List Int)(hz:ZSm z)(hh:∀n∈l,bk o.w n=true)(hl:l.length<=1000)(hd:d.length<=100000)(hd2:d2.length<=100000)(hd3:d3.length<=100000)(hst:(wfR (cn o.w o.life cut l (bo (bo (bo z s c f d) s c2 f2 d2) s c3 f d3)) z.apex 4).2=true->(wfR (cn o.w o.life cut l (bo (bo (bo z s c f d) s c2 f2 d2) s c3 f d3)) z.apex 4).1.data≠[]) :
 FnP cO pvW 120 [.ptr 100034 0,.agg ((aG z).map .d),.own 87] ((87,.arow 177 1 [[ku s c f d],[ku s c2 f2 d2],[ku s c3 f d3],[mj l cut]])::gB o) (mr (gB o) (cG o.since o.till (cn o.w o.life cut l (bo (bo (bo z s c f d) s c2 f2 d2) s c3 f d3)))):=by
 refine aT [100004] slF EX se Tryz.func120 (by kernel_rfl) rfl (ag rfl) (ag rfl) rfl ?_
 conv=>whnf
 have hC:=bB (pv' :=pvW) (bx (cx' :=cO) rfl rfl (jt z (by have:=hz.1;omega) hz.2));refine⟨[4,6,87,100003,100034,90032,90040,90041],_,hC,⟨rfl,rfl,rfl⟩,?_⟩
 conv=>whnf
 refine aA ?_
 conv=>whnf
 have hB1:=bB (pv' :=pvW) (bx (cx' :=cO) rfl rfl (dW z s c f d (by have:=hz.1;omega) hd));have hl1:=fX z s c f d;have ha1:(bo z s c f d).apex=z.apex:=rfl;generalize hg1:bo z s c f d=z1 at hB1 hl1 ha1 hst ⊢;have hB2:=bB (pv' :=pvW) (bx (cx' :=cO) rfl rfl (dW z1 s c2 f2 d2 (by have:=hz.1;omega) hd2));have hl2:=fX z1 s c2 f2 d2;have ha2:(bo z1 s c2 f2 d2).apex=z1.apex:=rfl;generalize hg2:bo z1 s c2 f2 d2=z2 at hB2 hl2 ha2 hst ⊢;have hB3:=bB (pv' :=pvW) (bx (cx' :=cO) rfl rfl (dW z2 s c3 f d3 (by have:=hz.1;omega) hd3));have hl3:=fX z2 s c3 f d3;have ha3:(bo z2 s c3 f d3).apex=z2.apex:=rfl
 generalize hg3:bo z2 s c3 f d3=z3 at hB3 hl3 ha3 hst ⊢
 have hB4:=bB (pv' :=pvW) (bx (cx' :=cO) rfl rfl (qH o cut l z3 hh hl (by have:=hz.1;omega)));have hl4:=ot o.w o.life cut l z3;have ha4:(cn o.w o.life cut l z3).apex=z3.apex:=dK ..;generalize hg4:cn o.w o.life cut l z3=z4 at hB4 hl4 ha4 hst ⊢;refine⟨Nat,λk=>⟨[(0,.ptr 100034 0),(4,.ptr 100004 0),(6,.ptr 6 0),(15,.own 87),(16,.d (.int .i64 4)),(17,.d (.int .i64 k))],eS (match k with|0=>z|1=>z1|2=>z2|3=>z3|_=>z4)++(6,.box [.d (.str []),.nil 5])::(87,.arow 177 1 [[ku s c f d],[ku s c2 f2 d2],[ku s c3 f d3],[mj l cut]])::gB o⟩,
  λk=>k<=4,λk=>4-k,⟨0,Nat.zero_le _,(ah.name 4 100004 rfl rfl).trans (ah.keep)⟩,λk hk=>?_⟩
 rcases k with _|_|_|_|_|k
 case succ.succ.succ.succ.succ=>omega
 . conv=>whnf
   refine⟨by decide,ag rfl,?_⟩
   conv=>whnf
   refine⟨_,rfl,?_⟩
   conv=>whnf
   refine⟨[6,87,100003,100034,90032,90040,90041],_,hB1,⟨by kernel_rfl,by kernel_rfl,by kernel_rfl⟩,?_⟩
   conv=>whnf
   refine aA ?_
   conv=>whnf
   exact⟨1,by decide,by(show 4-1<4-0;omega),ah.keep⟩
 . conv=>whnf
   refine⟨by decide,ag rfl,?_⟩
   conv=>whnf
   refine⟨_,rfl,?_⟩
   conv=>whnf
   refine⟨[6,87,100003,100034,90032,90040,90041],_,hB2,⟨by kernel_rfl,by kernel_rfl,by kernel_rfl⟩,?_⟩
   conv=>whnf
   refine aA ?_
   conv=>whnf
   exact⟨2,by decide,by(show 4-2<4-1;omega),ah.keep⟩
 . conv=>whnf
   refine⟨by decide,ag rfl,?_⟩
   conv=>whnf
   refine⟨_,rfl,?_⟩
   conv=>whnf
   refine⟨[6,87,100003,100034,90032,90040,90041],_,hB3,⟨by kernel_rfl,by kernel_rfl,by kernel_rfl⟩,?_⟩
   conv=>whnf
   refine aA ?_
   conv=>whnf
   exact⟨3,by decide,by(show 4-3<4-2;omega),ah.keep⟩
 . conv=>whnf
   refine⟨by decide,ag rfl,?_⟩
   conv=>whnf
   refine⟨_,rfl,?_⟩
   conv=>whnf
   refine⟨[6,87],_,hB4,⟨by kernel_rfl,by kernel_rfl,by kernel_rfl⟩,?_⟩
   conv=>whnf
   refine aA ?_
   conv=>whnf
   exact⟨4,by decide,by(show 4-4<4-3;omega),ah.keep⟩
 have hT:=pk o z4 (by have:=hz.1;omega) (by rw[ha4,ha3,ha2,ha1];exact hst)
 conv at hT=>whnf
 conv=>whnf
 exact eT hT (ah.keep)
set_option maxHeartbeats 8000000 in
theorem JG(o:aX)(z:aB)(p:Signed->Bool)(x:aY)(s:Bs)(c:Int)(f:Int)(d:List Datum)(c3:Int)(d3:List Datum)(cut:Bs)(l:List Int)(hz:ZSm z)(hh:∀n∈l,bk o.w n=true)(hl:l.length<=1000)(hd:d.length<=100000)(hd3:d3.length<=100000)(hw:∀s,NQ.Fn cx 197 [.agg (ak s),.ptr [.fn 135 [] [.ptr (aS x)]]] (.d (.bool (p s))) [])(hst:(wfR (cn o.w o.life cut l (bo (bo (oO p z) s c f d) s c3 f d3)) z.apex 4).2=true->(wfR (cn o.w o.life cut l (bo (bo (oO p z) s c f d) s c3 f d3)) z.apex 4).1.data≠[]) :
 FnP cO pvW 120 [.ptr 100034 0,.agg ((aG z).map .d),.own 130] ((130,.arow 177 1 [[woA 135 x],[ku s c f d],[ku s c3 f d3],[mj l cut]])::gB o) (mr (gB o) (cG o.since o.till (cn o.w o.life cut l (bo (bo (oO p z) s c f d) s c3 f d3)))):=by
 refine aT [100004] slF EX se Tryz.func120 (by kernel_rfl) rfl (ag rfl) (ag rfl) rfl ?_
 conv=>whnf
 have hC:=bB (pv' :=pvW) (bx (cx' :=cO) rfl rfl (jt z (by have:=hz.1;omega) hz.2));refine⟨[4,6,130,100003,100034,90032,90040,90041],_,hC,⟨rfl,rfl,rfl⟩,?_⟩
 conv=>whnf
 refine aA ?_
 conv=>whnf
 have hB1:=bB (pv' :=pvW) (bx (cx' :=cO) rfl rfl (vv z p 135 x (by have:=hz.1;omega) hw));have hl1:=OC p z;have ha1:(oO p z).apex=z.apex:=rfl
 change FnP _ _ _ _ _ (some (_,eS (oO p z)))at hB1
 generalize hg1:oO p z=z1 at hB1 hl1 ha1 hst ⊢
 have hB2:=bB (pv' :=pvW) (bx (cx' :=cO) rfl rfl (dW z1 s c f d (by have:=hz.1;omega) hd));have hl2:=fX z1 s c f d;have ha2:(bo z1 s c f d).apex=z1.apex:=rfl;generalize hg2:bo z1 s c f d=z2 at hB2 hl2 ha2 hst ⊢;have hB3:=bB (pv' :=pvW) (bx (cx' :=cO) rfl rfl (dW z2 s c3 f d3 (by have:=hz.1;omega) hd3));have hl3:=fX z2 s c3 f d3;have ha3:(bo z2 s c3 f d3).apex=z2.apex:=rfl;generalize hg3:bo z2 s c3 f d3=z3 at hB3 hl3 ha3 hst ⊢;have hB4:=bB (pv' :=pvW) (bx (cx' :=cO) rfl rfl (qH o cut l z3 hh hl (by have:=hz.1;omega)));have hl4:=ot o.w o.life cut l z3
 have ha4:(cn o.w o.life cut l z3).apex=z3.apex:=dK ..;generalize hg4:cn o.w o.life cut l z3=z4 at hB4 hl4 ha4 hst ⊢;refine⟨Nat,λk=>⟨[(0,.ptr 100034 0),(4,.ptr 100004 0),(6,.ptr 6 0),(15,.own 130),(16,.d (.int .i64 4)),(17,.d (.int .i64 k))],eS (match k with|0=>z|1=>z1|2=>z2|3=>z3|_=>z4)++(6,.box [.d (.str []),.nil 5])::(130,.arow 177 1 [[woA 135 x],[ku s c f d],[ku s c3 f d3],[mj l cut]])::gB o⟩,
  λk=>k<=4,λk=>4-k,⟨0,Nat.zero_le _,(ah.name 4 100004 rfl rfl).trans (ah.keep)⟩,λk hk=>?_⟩
 rcases k with _|_|_|_|_|k
 case succ.succ.succ.succ.succ=>omega
 . conv=>whnf
   refine⟨by decide,ag rfl,?_⟩
   conv=>whnf
   refine⟨_,rfl,?_⟩
   conv=>whnf
   refine⟨[6,130,100003,100034,90032,90040,90041],_,hB1,⟨by kernel_rfl,by kernel_rfl,by kernel_rfl⟩,?_⟩
   conv=>whnf
   refine aA ?_
   conv=>whnf
   exact⟨1,by decide,by(show 4-1<4-0;omega),ah.keep⟩
 . conv=>whnf
   refine⟨by decide,ag rfl,?_⟩
   conv=>whnf
   refine⟨_,rfl,?_⟩
   conv=>whnf
   refine⟨[6,130,100003,100034,90032,90040,90041],_,hB2,⟨by kernel_rfl,by kernel_rfl,by kernel_rfl⟩,?_⟩
   conv=>whnf
   refine aA ?_
   conv=>whnf
   exact⟨2,by decide,by(show 4-2<4-1;omega),ah.keep⟩
 . conv=>whnf
   refine⟨by decide,ag rfl,?_⟩
   conv=>whnf
   refine⟨_,rfl,?_⟩
   conv=>whnf
   refine⟨[6,130,100003,100034,90032,90040,90041],_,hB3,⟨by kernel_rfl,by kernel_rfl,by kernel_rfl⟩,?_⟩
   conv=>whnf
   refine aA ?_
   conv=>whnf
   exact⟨3,by decide,by(show 4-3<4-2;omega),ah.keep⟩
 . conv=>whnf
   refine⟨by decide,ag rfl,?_⟩
   conv=>whnf
   refine⟨_,rfl,?_⟩
   conv=>whnf
   refine⟨[6,130],_,hB4,⟨by kernel_rfl,by kernel_rfl,by kernel_rfl⟩,?_⟩
   conv=>whnf
   refine aA ?_
   conv=>whnf
   exact⟨4,by decide,by(show 4-4<4-3;omega),ah.keep⟩
 have hT:=pk o z4 (by have:=hz.1;omega) (by rw[ha4,ha3,ha2,ha1];exact hst)
 conv at hT=>whnf
 conv=>whnf
 exact eT hT (ah.keep)
def cH(o:aX):aX:={o with got:=cV o.w o.got o.puts,stages:=o.stages++(if o.puts=[]then[]else[o.puts]),puts:=[]}
theorem yv(o:aX):gQ o=cH o:=by
 unfold gQ cH;cases o with|mk w s t z l g p st =>
 dsimp only;by_cases h:p=[]
 . subst h;rw[if_pos rfl,if_pos rfl,List.append_nil];rfl
 . rw[if_neg h,if_neg h]
theorem cU{z:aB}(h:aR z=true):ZSm z:=by
 have ho:=bT h;exact⟨by have:=ho.few;omega,λs hs=>by have:=ko h s hs;omega⟩
theorem gO{since till:Int}{y z:aB}(h:cG since till y=some z):aR z=true:=by
 unfold cG at h;split at h
 . split at h
   . cases h
   . unfold kV at h;split at h
     . split at h
       . cases h
       . split at h
         . cases h
         . split at h
           . cases h
           . rename_i hc;cases h;simp only[Bool.or_eq_true,not_or,Bool.not_eq_true,Bool.not_eq_false']at hc;exact hc.2
     . cases h
 . cases h
def lg(z:aB):Prop:= ∀s∈z.sets,s.set.data≠[]
theorem iD{z:aB}{s:Bs}{k:Int}(h:lg z)(hf:(wfR z s k).2=true):(wfR z s k).1.data≠[]:=by
 unfold wfR at hf ⊢;unfold kB at hf ⊢;cases hc:z.sets.find? (isF s k)with
 |none=>rw[hc]at hf;cases hf
 |some x=>exact h x (List.mem_of_find?_eq_some hc)
theorem gj{z:aB}{s:Bs}{k life:Int}{data:List Datum}(h:lg z)(hd:data≠[]):lg (bo z s k life data):=by
 intro x hx;have hb:(dN z s k life data).set.data≠[]:=hd;unfold bo at hx;dsimp only at hx;split at hx
 . rcases List.mem_or_eq_of_mem_set hx with hx|rfl
   . exact h x hx
   . exact hb
 . rcases List.mem_append.1 hx with hx|hx
   . rcases List.mem_append.1 hx with hx|hx
     . exact h x (List.mem_of_mem_take hx)
     . rcases List.mem_singleton.1 hx with rfl;exact hb
   . exact h x (List.mem_of_mem_drop hx)
theorem oq(w:aL)(life:Int)(cut:Bs):∀(l:List Int) {z:aB},lg z->lg (cn w life cut l z)
 |[],z,h=>h
 |n::t,z,h=>by
  show lg (cn w life cut t (jy w life cut z n))
  refine oq w life cut t ?_;unfold jy;split
  . exact gj h (by simp)
  . exact h
theorem NK(p:Signed->Bool){z:aB}(h:lg z):lg (oO p z):=λx hx=>h x (List.mem_filter.1 hx).1
theorem ln{z:aB}(h:aR z=true):lg z:=λs hs=>by
 obtain⟨d,hd⟩:=vd ((bT h).set s hs);intro e;rw[e]at hd;cases hd
theorem uH{w:aL}{g:List (Bs×List Int)}:∀(l:List ai),(∀p∈l,jc w g p=false)->cV w g l=g
 |[],_=>rfl
 |p::t,h=>by
  show cV w (jz w g p) t=g
  have:jz w g p=g:=by unfold jz;rw[if_neg (by rw[h p (List.mem_cons_self ..)];decide)]
  rw[this];exact uH t λq hq=>h q (aZ _ hq)
theorem sw{o:aX}{z:aB}:∀p∈cA z o.w.zones++cS z (bu o.got z.apex),jc o.w o.got p=false:=by
 intro p hp;rcases List.mem_append.1 hp with hp|hp
 . unfold cA at hp;obtain⟨q,hq,rfl⟩:=List.mem_map.1 hp;obtain⟨hq1,hq2⟩:=List.mem_filter.1 hq;have:o.w.zones.any (dY q.host z.apex)=true:=List.any_eq_true.2 ⟨q,hq1,by unfold dY;simp;simpa using hq2⟩;unfold jc;simp[this]
 . unfold cS at hp;obtain⟨n,hn,rfl⟩:=List.mem_map.1 hp;unfold jc;have:(bu o.got z.apex).contains n=true:=la.2 hn;dsimp only;rw[this];simp
theorem CK{w:aL}{g:List (Bs×List Int)}{n:Int}{a:Bs}:jc w g ⟨n,⟨a,[]⟩⟩=false:=rfl
theorem jZ(o:aX)(hn:o.w.zones.length<=1000)(hp:o.puts.length<=100000)(hs:o.stages.length<=1000)(hgl:∀a,(bu o.got a).length<=1000)(hz:∀p∈o.puts,p.zone.sets.length<=100000)(h:∀p∈o.puts,jc o.w o.got p=false) :
 FnP sL pvW 115 [.ptr 100034 0] (bg o) (some (.tuple [],bg {o with stages:=o.stages++(if o.puts=[]then[]else[o.puts]),puts:=[]})):=by
 have e:gQ o={o with stages:=o.stages++(if o.puts=[]then[]else[o.puts]),puts:=[]}:=by
  rw[yv];unfold cH;rw[uH o.puts h]
 rw[<- e];have hk:∀k,cV o.w o.got (o.puts.take k)=o.got:=λk=>uH _ λp hp=>h p (List.mem_of_mem_take hp)
 refine yx o hn hp hs (λk p hkp=>?_) hz λk p hkp ha=>?_
 . rw[hk];have:=hgl p.zone.apex;omega
 . rw[hk,h p (ar hkp)]at ha;cases ha
def bY(o:aX):aX:={o with stages:=o.stages++(if o.puts=[]then[]else[o.puts]),puts:=[]}
def keyOf(x:aY):List Datum:=[⟨[],x.key.n,x.key.alg⟩]
def Pv(z:aB)(x:aY):List Datum:=du (fT eU (⟨[],x.key.n,x.key.alg⟩::(wfR z x.zone 7).1.data))
def uP(o:aX)(x:aY)(z:aB):Option aX:=match cG o.since o.till (bo z x.zone 7 o.life (keyOf x))with
 |none=>none
 |some z3=>some (bY (aJ o z3))
def ov(o:aX)(x:aY)(z ab:aB):Option aX:=if (wfR ab x.zone 6).2=true then(match cG o.since o.till (bo ab x.zone 6 o.life (keyOf x))with
 |none=>none
 |some z2=>uP (bY (aJ o z2)) x z)else none
def yI(o:aX)(x:aY)(ab:aB):Option aX:=if (wfR o.zone x.zone 7).2=true then(match cG o.since o.till (bo o.zone x.zone 7 o.life (Pv o.zone x))with
 |none=>none
 |some z=>ov (bY (aJ o z)) x z ab)else none
def nU(o:aX)(x:aY):Option aX:=if (cB o.w.zones x.zone).2=true then yI o x (cB o.w.zones x.zone).1 else none
def ij:Option aX->Option (AV×List (Nat×Blk))
 |some o=>some (.tuple [],bg o)
 |none=>none
theorem lift{cx cx' :Cx}{pv:Int->Value}{f:FuncId}{args:List AV}{h:List (Nat×Blk)}{out:Option (AV×List (Nat×Blk))}(hf:FnP cx pv f args h out)(h1:cx'.P=cx.P)(h2:cx'.gl=cx.gl):FnP cx' pv f args h out:=bx h1 h2 hf
theorem nQ{o:aX}{n:Nat}(h:o.stages.length<=n):(bY o).stages.length<=n+1:=by
 show(o.stages++_).length<=_
 rw[List.length_append];split <;> simp <;> omega
theorem AM(z:aB)(l:List ai):(cA z l).length<=l.length:=by
 unfold cA;rw[ao];exact List.length_filter_le ..
theorem uB(o:aX)(z:aB)(hn:o.w.zones.length<=1000)(hp:o.puts=[])(hs:o.stages.length<=1000)(hg:o.got=[])(hz:ZSm z) :
 FnP sL pvW 115 [.ptr 100034 0] (bg (aJ o z)) (some (.tuple [],bg (bY (aJ o z)))):=by
 have hga:∀a,bu o.got a=[]:=λa=>by rw[hg];rfl
 have hpu:(aJ o z).puts=cA z o.w.zones++cS z (bu o.got z.apex):=by
  show o.puts++_++_=_
  rw[hp];rfl
 have hl:=AM z o.w.zones;refine jZ (aJ o z) hn ?_ hs (λa=>by show(bu o.got a).length<=_;rw[hga];simp) (λp hp' =>?_) λp hp' =>?_
 . rw[hpu,hga];simp[cS];omega
 . rw[hpu]at hp';have:p.zone=z:=by
    rcases List.mem_append.1 hp' with h|h
    . unfold cA at h;obtain⟨q,_,rfl⟩:=List.mem_map.1 h;rfl
    . unfold cS at h;obtain⟨q,_,rfl⟩:=List.mem_map.1 h;rfl
   rw[this];have:=hz.1;omega
 . rw[hpu]at hp';exact sw p hp'
attribute [local irreducible] NQ.FnP
noncomputable def ga:Cx:={cx with chg:=fY [(112,10),(111,9),(123,9),(63,11),(124,2),(126,1),(116,9),(120,9),(119,9),(115,9)],bld:=[52,77,95]}
theorem Ta:ba ga:=aV
theorem QI:ga.P.follows .mixedOrders=true:=mixed
def RM:Nat->List Nat:=fun|1=>[33333]|2=>[55555]|3=>[33333]|4=>[33333,55555]|5=>[33333,55555]|8=>[33333,55555]|9=>[33333,55555]|10=>[33333]|11=>[33333,55555]|12=>[33333,55555]|13=>[33333]|14=>[33333,55555]|15=>[33333]|_=>[]
noncomputable abbrev RO:Code:=(Tryz.f65).body.getD .skip
noncomputable abbrev SN:List ResultVar:=(Tryz.f65).results.toList
set_option maxHeartbeats 4000000 in
theorem Lw(o:aX)(x:aY)(z ab:aB)(hn:o.w.zones.length<=1000)(hp:o.puts=[])(hs:o.stages.length<=100)(hg:o.got=[])(hz:aR z=true)(hab:aR ab=true) :
 vcp ga [] pvW 100 RM (λ_=>ij (ov (bY (aJ o z)) x z ab)=none) ((fG 9 RO).getD .skip) (mT ga [] SN (ij (ov (bY (aJ o z)) x z ab)))
  ⟨[(0,.ptr 100034 0),(3,.ptr 3 0),(4,.ptr 4 0),(8,.ptr 8 0)],(3,.box ((aS x).map .d))::(4,.box ((aG ab).map .d))::(8,.box ((aG z).map .d))::bg o⟩:=by
 conv=>whnf
 refine⟨_,ah.refl _,?_⟩
 conv=>whnf
 obtain⟨r,hr⟩:∃r,r=ov (bY (aJ o z)) x z ab:=⟨_,rfl⟩
 rw[<- hr];have hga:∀a,bu o.got a=[]:=λa=>by rw[hg];rfl
 have hSp:=lift (cx' :=ga) (jI o z (cU hz) hn (by rw[hp];simp) (by rw[hga];simp)) rfl rfl;refine⟨[3,4,8],_,hSp,⟨rfl,rfl,rfl⟩,?_⟩
 conv=>whnf
 refine aA ?_
 conv=>whnf
 have hFi:=lift (cx' :=ga) (uB o z hn hp (by omega) hg (cU hz)) rfl rfl;refine⟨[3,4,8],_,hFi,⟨rfl,rfl,rfl⟩,?_⟩
 conv=>whnf
 refine aA ?_
 conv=>whnf
 have hs1:(bY (aJ o z)).stages.length<=101:=nQ (o:=aJ o z) hs;have hw1:(bY (aJ o z)).w=o.w:=rfl;have hg1:(bY (aJ o z)).got=[]:=hg;have hp1:(bY (aJ o z)).puts=[]:=rfl;generalize bY (aJ o z)=o1 at hr hs1 hw1 hg1 hp1 ⊢;refine⟨_,ah.keep (sl:=[(0,.ptr 100034 0),(3,.ptr 3 0),(4,.ptr 4 0),(8,.ptr 8 0)]) (h:=(3,.box ((aS x).map .d))::(4,.box ((aG ab).map .d))::(8,.box ((aG z).map .d))::bg o1),?_⟩
 conv=>whnf
 clear hSp hFi;have hN:=tg ab x.zone 6 (by have:=(cU hab).1;omega);unfold ov at hr;generalize wfR ab x.zone 6=s6 at hN hr;obtain⟨s6,b6⟩:=s6;dsimp only at hN hr;cases b6 with
 |false =>
  rw[if_neg (by decide)]at hN hr;subst hr;have hN:=lift (cx' :=ga) hN rfl rfl;exact⟨[3,4,8,100034,90032,90040,90041],_,hN,⟨rfl,rfl,rfl⟩,rfl⟩
 |true =>
 rw[if_pos rfl]at hN hr;have hN:=lift (cx' :=ga) hN rfl rfl;refine⟨[3,4,8,100034,90032,90040,90041],_,hN,⟨rfl,rfl,rfl⟩,?_⟩
 conv=>whnf
 refine aA ?_
 conv=>whnf
 refine⟨_,ah.keep (sl:=[(0,.ptr 100034 0),(3,.ptr 3 0),(4,.ptr 4 0),(8,.ptr 8 0)]) (h:=(3,.box ((aS x).map .d))::(4,.box ((aG ab).map .d))::(8,.box ((aG z).map .d))::bg o1),?_⟩
 conv=>whnf
 clear hN;have hK:=bB (pv' :=pvW) (lift (cx' :=ga) (nS x.key) rfl rfl);have hB:=bB (pv' :=pvW) (lift (cx' :=ga) (dH x.zone 6 o1.life (keyOf x)) rfl rfl);have hS:=lift (cx' :=ga) (qW o1 ab x.zone 6 o1.life (keyOf x) hab (by simp[keyOf]) (λh=>iD (gj (ln hab) (by simp[keyOf])) h)) rfl rfl;cases hq:cG o1.since o1.till (bo ab x.zone 6 o1.life (keyOf x))with
 |none =>
  rw[hq]at hS hr;subst hr
  (refine⟨(by kernel_rfl:bA _=true),?_⟩;conv=>whnf)
  refine⟨[3,4,8,100034,90032,90040,90041],_,hK,⟨rfl,rfl,rfl⟩,?_⟩
  conv=>whnf
  refine aA ?_
  (conv=>arg 2;arg 1;reduce);(conv=>arg 2;arg 2;tactic=>(refine Eq.trans (b:=(3,.box ((aS x).map .d))::(4,.box ((aG ab).map .d))::(8,.box ((aG z).map .d))::bg o1) ?_ rfl;kernel_rfl))
  conv=>whnf
  repeat (refine And.intro (by kernel_rfl:NQ.viewAt _ _ _ _=NQ.viewAt _ _ _ _) ?_;conv=>whnf)
  refine⟨[3,4,8,100034,90032,90040,90041],_,hB,⟨rfl,rfl,rfl⟩,?_⟩
  conv=>whnf
  refine aA ?_
  (conv=>arg 2;arg 1;reduce);(conv=>arg 2;arg 2;tactic=>(refine Eq.trans (b:=(3,.box ((aS x).map .d))::(4,.box ((aG ab).map .d))::(8,.box ((aG z).map .d))::bg o1) ?_ rfl;kernel_rfl))
  conv=>whnf
  repeat (refine And.intro (by kernel_rfl:NQ.viewAt _ _ _ _=NQ.viewAt _ _ _ _) ?_;conv=>whnf)
  exact⟨[3,4,8],_,hS,⟨rfl,rfl,rfl⟩,rfl⟩
 |some z2 =>
 rw[hq]at hS hr;have hzv:=gO hq;have hSp:=lift (cx' :=ga) (jI o1 z2 (cU hzv) (by rw[hw1];exact hn) (by rw[hp1];simp) (by rw[hg1];simp[bu,bf])) rfl rfl
 (refine⟨(by kernel_rfl:bA _=true),?_⟩;conv=>whnf)
 refine⟨[3,4,8,100034,90032,90040,90041],_,hK,⟨rfl,rfl,rfl⟩,?_⟩
 conv=>whnf
 refine aA ?_
 (conv=>arg 2;arg 1;reduce);(conv=>arg 2;arg 2;tactic=>(refine Eq.trans (b:=(3,.box ((aS x).map .d))::(4,.box ((aG ab).map .d))::(8,.box ((aG z).map .d))::bg o1) ?_ rfl;kernel_rfl))
 conv=>whnf
 repeat (refine And.intro (by kernel_rfl:NQ.viewAt _ _ _ _=NQ.viewAt _ _ _ _) ?_;conv=>whnf)
 refine⟨[3,4,8,100034,90032,90040,90041],_,hB,⟨rfl,rfl,rfl⟩,?_⟩
 conv=>whnf
 refine aA ?_
 (conv=>arg 2;arg 1;reduce);(conv=>arg 2;arg 2;tactic=>(refine Eq.trans (b:=(3,.box ((aS x).map .d))::(4,.box ((aG ab).map .d))::(8,.box ((aG z).map .d))::bg o1) ?_ rfl;kernel_rfl))
 conv=>whnf
 repeat (refine And.intro (by kernel_rfl:NQ.viewAt _ _ _ _=NQ.viewAt _ _ _ _) ?_;conv=>whnf)
 refine⟨[3,4,8],_,hS,⟨rfl,rfl,rfl⟩,?_⟩
 conv=>whnf
 refine aA ?_
 (conv=>arg 2;arg 1;reduce);(conv=>arg 2;arg 2;tactic=>(refine Eq.trans (b:=(3,.box ((aS x).map .d))::(4,.box ((aG ab).map .d))::(8,.box ((aG z).map .d))::bg o1) ?_ rfl;kernel_rfl))
 conv=>whnf
 repeat (refine And.intro (by kernel_rfl:NQ.viewAt _ _ _ _=NQ.viewAt _ _ _ _) ?_;conv=>whnf)
 refine⟨[3,4,8],_,hSp,⟨rfl,rfl,rfl⟩,?_⟩
 conv=>whnf
 refine aA ?_
 (conv=>arg 2;arg 1;reduce);(conv=>arg 2;arg 2;tactic=>(refine Eq.trans (b:=(3,.box ((aS x).map .d))::(4,.box ((aG ab).map .d))::(8,.box ((aG z).map .d))::bg (aJ o1 z2)) ?_ rfl;kernel_rfl))
 conv=>whnf
 have hFi:=lift (cx' :=ga) (uB o1 z2 (by rw[hw1];exact hn) hp1 (by omega) hg1 (cU hzv)) rfl rfl;refine⟨[3,4,8],_,hFi,⟨rfl,rfl,rfl⟩,?_⟩
 conv=>whnf
 refine aA ?_
 conv=>whnf
 replace hr:r=uP (bY (aJ o1 z2)) x z:=hr;have hs2:(bY (aJ o1 z2)).stages.length<=102:=nQ (o:=aJ o1 z2) hs1;have hw2:(bY (aJ o1 z2)).w=o.w:=hw1;have hg2:(bY (aJ o1 z2)).got=[]:=hg1;have hp2:(bY (aJ o1 z2)).puts=[]:=rfl;generalize bY (aJ o1 z2)=o2 at hr hs2 hw2 hg2 hp2 ⊢;refine⟨_,ah.keep (sl:=[(0,.ptr 100034 0),(3,.ptr 3 0),(4,.ptr 4 0),(8,.ptr 8 0)]) (h:=(3,.box ((aS x).map .d))::(4,.box ((aG ab).map .d))::(8,.box ((aG z).map .d))::bg o2),?_⟩
 conv=>whnf
 clear hSp hFi hB hS hq;have hB:=bB (pv' :=pvW) (lift (cx' :=ga) (dH x.zone 7 o2.life (keyOf x)) rfl rfl);have hS:=lift (cx' :=ga) (qW o2 z x.zone 7 o2.life (keyOf x) hz (by simp[keyOf]) (λh=>iD (gj (ln hz) (by simp[keyOf])) h)) rfl rfl;unfold uP at hr;cases hq:cG o2.since o2.till (bo z x.zone 7 o2.life (keyOf x))with
 |none =>
  rw[hq]at hS hr;subst hr
  (refine⟨(by kernel_rfl:bA _=true),?_⟩;conv=>whnf)
  refine⟨[3,4,8,100034,90032,90040,90041],_,hK,⟨rfl,rfl,rfl⟩,?_⟩
  conv=>whnf
  refine aA ?_
  (conv=>arg 2;arg 1;reduce);(conv=>arg 2;arg 2;tactic=>(refine Eq.trans (b:=(3,.box ((aS x).map .d))::(4,.box ((aG ab).map .d))::(8,.box ((aG z).map .d))::bg o2) ?_ rfl;kernel_rfl))
  conv=>whnf
  repeat (refine And.intro (by kernel_rfl:NQ.viewAt _ _ _ _=NQ.viewAt _ _ _ _) ?_;conv=>whnf)
  refine⟨[3,4,8,100034,90032,90040,90041],_,hB,⟨rfl,rfl,rfl⟩,?_⟩
  conv=>whnf
  refine aA ?_
  (conv=>arg 2;arg 1;reduce);(conv=>arg 2;arg 2;tactic=>(refine Eq.trans (b:=(3,.box ((aS x).map .d))::(4,.box ((aG ab).map .d))::(8,.box ((aG z).map .d))::bg o2) ?_ rfl;kernel_rfl))
  conv=>whnf
  repeat (refine And.intro (by kernel_rfl:NQ.viewAt _ _ _ _=NQ.viewAt _ _ _ _) ?_;conv=>whnf)
  exact⟨[3,4,8],_,hS,⟨rfl,rfl,rfl⟩,rfl⟩
 |some z3 =>
 rw[hq]at hS hr;have hzv3:=gO hq;have hSp:=lift (cx' :=ga) (jI o2 z3 (cU hzv3) (by rw[hw2];exact hn) (by rw[hp2];simp) (by rw[hg2];simp[bu,bf])) rfl rfl;have hFi:=lift (cx' :=ga) (uB o2 z3 (by rw[hw2];exact hn) hp2 (by omega) hg2 (cU hzv3)) rfl rfl
 (refine⟨(by kernel_rfl:bA _=true),?_⟩;conv=>whnf)
 refine⟨[3,4,8,100034,90032,90040,90041],_,hK,⟨rfl,rfl,rfl⟩,?_⟩
 conv=>whnf
 refine aA ?_
 (conv=>arg 2;arg 1;reduce);(conv=>arg 2;arg 2;tactic=>(refine Eq.trans (b:=(3,.box ((aS x).map .d))::(4,.box ((aG ab).map .d))::(8,.box ((aG z).map .d))::bg o2) ?_ rfl;kernel_rfl))
 conv=>whnf
 repeat (refine And.intro (by kernel_rfl:NQ.viewAt _ _ _ _=NQ.viewAt _ _ _ _) ?_;conv=>whnf)
 refine⟨[3,4,8,100034,90032,90040,90041],_,hB,⟨rfl,rfl,rfl⟩,?_⟩
 conv=>whnf
 refine aA ?_
 (conv=>arg 2;arg 1;reduce);(conv=>arg 2;arg 2;tactic=>(refine Eq.trans (b:=(3,.box ((aS x).map .d))::(4,.box ((aG ab).map .d))::(8,.box ((aG z).map .d))::bg o2) ?_ rfl;kernel_rfl))
 conv=>whnf
 repeat (refine And.intro (by kernel_rfl:NQ.viewAt _ _ _ _=NQ.viewAt _ _ _ _) ?_;conv=>whnf)
 refine⟨[3,4,8],_,hS,⟨rfl,rfl,rfl⟩,?_⟩
 conv=>whnf
 refine aA ?_
 (conv=>arg 2;arg 1;reduce);(conv=>arg 2;arg 2;tactic=>(refine Eq.trans (b:=(3,.box ((aS x).map .d))::(4,.box ((aG ab).map .d))::(8,.box ((aG z).map .d))::bg o2) ?_ rfl;kernel_rfl))
 conv=>whnf
 repeat (refine And.intro (by kernel_rfl:NQ.viewAt _ _ _ _=NQ.viewAt _ _ _ _) ?_;conv=>whnf)
 refine⟨[3,4,8],_,hSp,⟨rfl,rfl,rfl⟩,?_⟩
 conv=>whnf
 refine aA ?_
 (conv=>arg 2;arg 1;reduce);(conv=>arg 2;arg 2;tactic=>(refine Eq.trans (b:=(3,.box ((aS x).map .d))::(4,.box ((aG ab).map .d))::(8,.box ((aG z).map .d))::bg (aJ o2 z3)) ?_ rfl;kernel_rfl))
 conv=>whnf
 refine⟨[3,4,8],_,hFi,⟨rfl,rfl,rfl⟩,?_⟩
 conv=>whnf
 refine aA ?_
 (conv=>arg 2;arg 1;reduce);(conv=>arg 2;arg 2;tactic=>(refine Eq.trans (b:=(3,.box ((aS x).map .d))::(4,.box ((aG ab).map .d))::(8,.box ((aG z).map .d))::bg (bY (aJ o2 z3))) ?_ rfl;kernel_rfl))
 conv=>whnf
 replace hr:r=some (bY (aJ o2 z3)):=hr;subst hr;exact .inl ⟨[],ah.keep trivial,rfl⟩
theorem wz:∀l:List Datum,(du l).length<=l.length
 |[]=>Nat.le_refl _
 |[a]=>Nat.le_refl _
 |a::b::t=>by
  have:=wz (b::t);show(if a=b then du (b::t)else a::du (b::t)).length<=_
  split <;> simp at this ⊢ <;> omega
theorem yo:∀l:List Datum,l≠[]->du l≠[]
 |[],h=>absurd rfl h
 |[a],_=>by simp[du]
 |a::b::t,_=>by
  have:=yo (b::t) (by simp);show(if a=b then du (b::t)else a::du (b::t))≠[]
  split
  . exact this
  . simp
theorem wm{zs:List ai}{a:Bs}(hv:∀p∈zs,aR p.zone=true)(h:(cB zs a).2=true):aR (cB zs a).1=true:=by
 unfold cB at h ⊢;split at h
 . rename_i h1;rw[if_pos h1];split at h
   . rename_i h2;rw[if_pos h2];rcases eF zs (jb a zs).1 with ⟨p,hp,hc,_⟩|⟨hc,_⟩
     . rw[hc];exact hv p hp
     . rw[hc]at h2;cases h2
   . cases h
 . cases h
theorem sR{z:aB}{s:Bs}{k:Int}(hz:aR z=true)(h:(wfR z s k).2=true):(wfR z s k).1.data.length<=1000:=by
 unfold wfR kB at h ⊢;cases hc:z.sets.find? (isF s k)with
 |none=>rw[hc]at h;cases h
 |some x =>
  have:=(ko hz x (List.mem_of_find?_eq_some hc)).1;show x.set.data.length<=1000
  omega
theorem vh(l:List Datum):(fT eU l).length=l.length:=(pt (wx.ok _)).length_eq
set_option maxHeartbeats 4000000 in
theorem Ob(o:aX)(x:aY)(hv:∀p∈o.w.zones,aR p.zone=true)(hn:o.w.zones.length<=1000)(hz:aR o.zone=true)(hp0:o.puts=[])(hs0:o.stages.length<=100)(hg0:o.got=[]):FnP ga pvW 65 [.ptr 100034 0,.agg ((aS x).map .d)] (bg o) (ij (nU o x)):=by
 refine aT [] RM Ta QI Tryz.func65 (by kernel_rfl) rfl (ag rfl) (ag rfl) rfl ?_
 conv=>whnf
 obtain⟨r,hr⟩:∃r,r=nU o x:=⟨_,rfl⟩
 rw[<- hr];unfold nU at hr;have hA:=bB (pv' :=pvW) (lift (cx' :=ga) (qu o.w x.zone hv (by omega)) rfl rfl);have hav:=wm (a:=x.zone) hv;generalize cB o.w.zones x.zone=ab at hA hr hav;obtain⟨ab,b⟩:=ab;dsimp only at hA hr hav;apply rV (α:=Unit) (P:=λ_=>True) (canon:=λ_=>⟨[(0,.ptr 100034 0),(3,.ptr 3 0),(4,.ptr 4 0),(5,.d (.bool b))],(3,.box ((aS x).map .d))::(4,.box ((aG ab).map .d))::bg o⟩)
 . intro rest
   (refine⟨(by kernel_rfl:bA _=true),?_⟩;conv=>whnf)
   repeat' (first
    |(refine And.intro (by kernel_rfl:NQ.viewAt _ _ _ _=NQ.viewAt _ _ _ _) ?_;conv=>whnf)
    |(refine⟨[3,100034,90032,90040,90041],_,hA,⟨rfl,rfl,rfl⟩,?_⟩;(conv=>whnf);refine aA ?_;(conv=>whnf))
    |(refine⟨[3,4,100034,90032,90040,90041],_,hA,⟨rfl,rfl,rfl⟩,?_⟩;(conv=>whnf);refine aA ?_;(conv=>whnf))
    |(refine And.intro ?_ ?_ <;> (conv=>whnf)))
   all_goals exact mB (ah.keep) (rest () trivial)
 rintro _ _;unfold App
 conv=>whnf
 cases b with
 |false =>
  rw[if_neg (by decide)]at hr;subst hr
  conv=>whnf
  have hF:=lift (cx' :=ga) (jw 4 (by decide)) rfl rfl;exact⟨[3,4,100034,90032,90040,90041],_,hF,⟨rfl,rfl,rfl⟩,rfl⟩
 |true =>
 rw[if_pos rfl]at hr
 conv=>whnf
 refine⟨_,ah.keep (sl:=[(0,.ptr 100034 0),(3,.ptr 3 0),(4,.ptr 4 0)]) (h:=(3,.box ((aS x).map .d))::(4,.box ((aG ab).map .d))::bg o),?_⟩
 conv=>whnf
 have hK:=bB (pv' :=pvW) (lift (cx' :=ga) (wJ x.key) rfl rfl);refine⟨[3,4,100034,90032,90040,90041],_,hK,⟨rfl,rfl,rfl⟩,?_⟩
 conv=>whnf
 refine aA ?_
 conv=>whnf
 refine⟨_,ah.keep (sl:=[(0,.ptr 100034 0),(3,.ptr 3 0),(4,.ptr 4 0),(6,.own 90050)]) (h:=(3,.box ((aS x).map .d))::(4,.box ((aG ab).map .d))::(90050,.row 70 3 [aI ⟨[],x.key.n,x.key.alg⟩])::bg o),?_⟩
 conv=>whnf
 have hz7:=sR (s:=x.zone) (k:=7) hz;have hN:=tg o.zone x.zone 7 (by have:=(cU hz).1;omega);unfold yI Pv at hr;generalize wfR o.zone x.zone 7=s7 at hN hr hz7;obtain⟨s7,b7⟩:=s7;dsimp only at hN hr hz7;cases b7 with
 |false =>
  rw[if_neg (by decide)]at hN hr;subst hr;have hN:=lift (cx' :=ga) hN rfl rfl
  (refine⟨(by kernel_rfl:bA _=true),?_⟩;conv=>whnf)
  exact⟨[3,4,90050,100034,90032,90040,90041],_,hN,⟨rfl,rfl,rfl⟩,rfl⟩
 |true =>
 rw[if_pos rfl]at hN hr;have hN:=lift (cx' :=ga) hN rfl rfl;have hl7:=hz7 rfl
 (refine⟨(by kernel_rfl:bA _=true),?_⟩;conv=>whnf)
 refine⟨[3,4,90050,100034,90032,90040,90041],_,hN,⟨rfl,rfl,rfl⟩,?_⟩
 conv=>whnf
 refine aA ?_
 conv=>whnf
 repeat (refine And.intro (by kernel_rfl:NQ.viewAt _ _ _ _=NQ.viewAt _ _ _ _) ?_;conv=>whnf)
 refine⟨by simp;omega,by simp;omega,?_⟩
 conv=>whnf
 repeat (refine And.intro (by kernel_rfl:NQ.viewAt _ _ _ _=NQ.viewAt _ _ _ _) ?_;conv=>whnf)
 refine⟨_,BG (⟨[],x.key.n,x.key.alg⟩::s7.data) (by simp;omega) _,?_⟩
 conv=>whnf
 have hsl:(fT eU (⟨[],x.key.n,x.key.alg⟩::s7.data)).length<=100000:=by rw[vh];simp;omega
 have hsn:fT eU (⟨[],x.key.n,x.key.alg⟩::s7.data)≠[]:=λe=>by have:=vh (⟨[],x.key.n,x.key.alg⟩::s7.data);rw[e]at this;simp at this
 generalize fT eU (⟨[],x.key.n,x.key.alg⟩::s7.data)=so at hsl hsn hr ⊢
 refine⟨_,Dk so hsl _,?_⟩
 conv=>whnf
 have hcl:(du so).length<=100000:=Nat.le_trans (wz so) hsl;have hbne:=yo so hsn;generalize du so=both at hcl hbne hr ⊢;refine⟨_,ah.trans (ah.rq [90050]) (ah.keep (sl:=[(0,.ptr 100034 0),(3,.ptr 3 0),(4,.ptr 4 0),(7,.d (.slice 3 (both.map aI)))]) (h:=(3,.box ((aS x).map .d))::(4,.box ((aG ab).map .d))::bg o)),?_⟩
 conv=>whnf
 clear hA hK hN;have hB:=bB (pv' :=pvW) (lift (cx' :=ga) (dH x.zone 7 o.life both) rfl rfl);have hS:=lift (cx' :=ga) (qW o o.zone x.zone 7 o.life both hz hcl (λh=>iD (gj (ln hz) hbne) h)) rfl rfl;cases hq:cG o.since o.till (bo o.zone x.zone 7 o.life both)with
 |none =>
  rw[hq]at hS hr;subst hr
  (refine⟨(by kernel_rfl:bA _=true),?_⟩;conv=>whnf)
  repeat' (first
   |(refine And.intro (by kernel_rfl:NQ.viewAt _ _ _ _=NQ.viewAt _ _ _ _) ?_;conv=>whnf)
   |(refine⟨[3,4,100034,90032,90040,90041],_,hB,⟨rfl,rfl,rfl⟩,?_⟩;(conv=>whnf);refine aA ?_;(conv=>arg 2;arg 1;reduce);(conv=>whnf))
   |(refine⟨[3,4,8,100034,90032,90040,90041],_,hB,⟨rfl,rfl,rfl⟩,?_⟩;(conv=>whnf);refine aA ?_;(conv=>arg 2;arg 1;reduce);(conv=>whnf))
   |exact⟨[3,4],_,hS,⟨rfl,rfl,rfl⟩,rfl⟩
   |exact⟨[3,4,8],_,hS,⟨rfl,rfl,rfl⟩,rfl⟩
   |(refine And.intro ?_ ?_ <;> (conv=>whnf)))
 |some z =>
 rw[hq]at hS hr;have hzv:=gO hq;have hT:=Lw o x z ab hn hp0 hs0 hg0 hzv (hav rfl)
 conv at hT=>whnf
 replace hr:r=ov (bY (aJ o z)) x z ab:=hr;rw[<- hr]at hT
 . (refine⟨(by kernel_rfl:bA _=true),?_⟩;conv=>whnf)
   repeat' (first
    |(refine And.intro (by kernel_rfl:NQ.viewAt _ _ _ _=NQ.viewAt _ _ _ _) ?_;conv=>whnf)
    |(refine⟨[3,4,100034,90032,90040,90041],_,hB,⟨rfl,rfl,rfl⟩,?_⟩;(conv=>whnf);refine aA ?_;(conv=>arg 2;arg 1;reduce);(conv=>whnf))
    |(refine⟨[3,4,8,100034,90032,90040,90041],_,hB,⟨rfl,rfl,rfl⟩,?_⟩;(conv=>whnf);refine aA ?_;(conv=>arg 2;arg 1;reduce);(conv=>whnf))
    |(refine⟨[3,4],_,hS,⟨rfl,rfl,rfl⟩,?_⟩;(conv=>whnf);refine aA ?_;(conv=>arg 2;arg 1;reduce);(conv=>whnf))
    |(refine⟨[3,4,8],_,hS,⟨rfl,rfl,rfl⟩,?_⟩;(conv=>whnf);refine aA ?_;(conv=>arg 2;arg 1;reduce);(conv=>whnf))
    |(refine And.intro ?_ ?_ <;> (conv=>whnf)))
   all_goals exact eT hT (ah.keep)
def eE(x:aY)(l:List ai):List ai:=(l.filter λp=>(p.zone.apex==x.zone)&& !x.hosts.contains p.host).map λp=>⟨p.host,⟨x.zone,[]⟩⟩
theorem EP(x:aY)(l:List ai):(eE x l).length<=l.length:=by
 unfold eE;rw[ao];exact List.length_filter_le ..
def yQ(o:aX)(x:aY):aX:=bY {bY o with puts:=eE x o.w.zones}
noncomputable def ie:Cx:={cx with chg:=fY [(112,10),(113,10),(117,10),(111,9),(114,9),(122,9),(118,9),(116,9),(120,9),(119,9),(115,9)]}
theorem Tb:ba ie:=aV
theorem QJ:ie.P.follows .mixedOrders=true:=mixed
def NM:Nat->List Nat:=fun|1=>[33333]|2=>[55555]|3=>[33333]|7=>[33333]|8=>[33333]|10=>[33333]|11=>[33333,55555]|12=>[33333,55555]|13=>[33333,55555]|14=>[33333,55555]|15=>[33333,55555]|16=>[55555]|20=>[33333]|22=>[33333,55555]|_=>[]
noncomputable abbrev LM:Code:=(Tryz.f64).body.getD .skip
noncomputable abbrev RY:List ResultVar:=(Tryz.f64).results.toList
set_option maxHeartbeats 4000000 in
theorem Ji(o:aX)(x:aY)(hn:o.w.zones.length<=1000)(hl:x.hosts.length<=1000)(hp:o.puts.length<=100000)(hs:o.stages.length<=100)(hgl:∀a,(bu o.got a).length<=1000)(hpz:∀p∈o.puts,p.zone.sets.length<=100000)(hpa:∀p∈o.puts,jc o.w o.got p=false) :
 vcp ie [100003] pvW 122 NM (λ_=>ij (some (yQ o x))=none) ((fG 15 LM).getD .skip) (mT ie [100003] RY (ij (some (yQ o x))))
  ⟨[(0,.ptr 100034 0),(3,.ptr 3 0)],(3,.box ((aS x).map .d))::bg o⟩:=by
 conv=>whnf
 refine⟨_,ah.refl _,?_⟩
 conv=>whnf
 have hFi:=lift (cx' :=ie) (jZ o hn hp (by omega) hgl hpz hpa) rfl rfl;refine⟨[3],_,hFi,⟨rfl,rfl,rfl⟩,?_⟩
 conv=>whnf
 refine aA ?_
 conv=>whnf
 have hs1:(bY o).stages.length<=101:=nQ hs;have hE:yQ o x=bY {bY o with puts:=eE x o.w.zones}:=rfl;have hw1:(bY o).w=o.w:=rfl;have hp1:(bY o).puts=[]:=rfl;have hgl1:∀a,(bu (bY o).got a).length<=1000:=hgl;refine⟨_,ah.keep (sl:=[(0,.ptr 100034 0),(3,.ptr 3 0)]) (h:=(3,.box ((aS x).map .d))::bg (bY o)),?_⟩;rw[hE];generalize bY o=o1 at hs1 hw1 hp1 hgl1 ⊢;rw[<- hw1];rw[<- hw1]at hn
 conv=>whnf
 refine⟨Nat×List ai,λq=>⟨[(0,.ptr 100034 0),(3,.ptr 3 0),(93,.d (.slice 3 (o1.w.zones.map aC))),(94,.d (.int .i64 ((o1.w.zones.map aC).length:Int))),(95,.d (.int .i64 q.1))],(3,.box ((aS x).map .d))::bg {o1 with puts:=q.2}⟩,
  λq=>q.1<=o1.w.zones.length/\q.2++eE x (o1.w.zones.drop q.1)=eE x o1.w.zones/\q.2.length<=q.1,λq=>o1.w.zones.length-q.1,⟨(0,[]),⟨Nat.zero_le _,rfl,Nat.le_refl _⟩,ah.keep (by repeat' (first|exact trivial|refine⟨⟨rfl,rfl⟩,?_⟩)) ⟨⟨rfl,rfl⟩,⟨rfl,rfl⟩,⟨rfl,rfl⟩,⟨congrArg (λr:List ai=>some (Blk.row 45 3 (r.map aC))) hp1,rfl⟩,⟨rfl,rfl⟩,trivial⟩⟩,?_⟩
 rintro⟨k,ps⟩ ⟨hk,hs,hlp⟩;dsimp only at hk hs hlp
 conv=>whnf
 refine af (λh1=>?_) (λh1=>?_) <;> (rw[h1];conv=>whnf)
 . have hlt:k<o1.w.zones.length:=by simp at h1;omega
   obtain⟨p,hpk⟩:∃p,o1.w.zones[k]? =some p:=⟨_,aj hlt⟩
   have hd:eE x (o1.w.zones.drop k)=(if ((p.zone.apex==x.zone)&& !x.hosts.contains p.host)=true then[⟨p.host,⟨x.zone,[]⟩⟩]else[])++eE x (o1.w.zones.drop (k+1)):=by
    rw[drop_cons hpk];unfold eE;rw[List.filter_cons];split <;> rfl
   rw[hd, <- List.append_assoc]at hs;have again:((p.zone.apex==x.zone)&& !x.hosts.contains p.host)=false->ps++eE x (o1.w.zones.drop (k+1))=eE x o1.w.zones:=λh=>by rw[if_neg (by rw[h];decide),List.append_nil]at hs;exact hs
   refine⟨aw k,aC p,aD hpk,?_⟩
   conv=>whnf
   refine af (λh2=>?_) (λh2=>?_) <;> (rw[h2];conv=>whnf)
   . (refine⟨_,_,jX x.hosts p.host (by omega),?_⟩;conv=>whnf)
     cases hc:x.hosts.contains p.host with
     |true =>
      conv=>whnf
      exact⟨(k+1,ps),⟨hlt,again (by rw[hc];simp),by dsimp only;omega⟩,by(show o1.w.zones.length-(k+1)<o1.w.zones.length-k;omega),ah.keep ⟨ae,ae,ae,ae,⟨an (k:=k) (by omega),rfl⟩,trivial⟩⟩
     |false =>
      conv=>whnf
      rw[if_pos (by rw[hc];simpa using h2)]at hs;have hP:=lift (cx' :=ie) (EO {o1 with puts:=ps} p.host x.zone (by dsimp only;omega)) rfl rfl;refine⟨[3,11],_,hP,⟨rfl,rfl,rfl⟩,?_⟩
      conv=>whnf
      refine aA ?_
      conv=>whnf
      exact⟨(k+1,ps++[⟨p.host,⟨x.zone,[]⟩⟩]),⟨hlt,hs,by simp;omega⟩,by(show o1.w.zones.length-(k+1)<o1.w.zones.length-k;omega),ah.keep ⟨ae,ae,ae,ae,⟨an (k:=k) (by omega),rfl⟩,trivial⟩⟩
   . exact⟨(k+1,ps),⟨hlt,again (by rw[show(p.zone.apex==x.zone)=false from h2];rfl),by dsimp only;omega⟩,by(show o1.w.zones.length-(k+1)<o1.w.zones.length-k;omega),ah.keep ⟨ae,ae,ae,ae,⟨an (k:=k) (by omega),rfl⟩,trivial⟩⟩
 . obtain rfl:k=o1.w.zones.length:=by simp at h1;omega
   rw[List.drop_length]at hs;have hs:ps=eE x o1.w.zones:=by rw[<- hs];exact(List.append_nil _).symm
   have hsl:=EP x o1.w.zones;subst hs;have hFi:=lift (cx' :=ie) (jZ {o1 with puts:=eE x o1.w.zones} hn (by dsimp only;omega) (by dsimp only;omega) hgl1 (λp hp=>by
    unfold eE at hp;obtain⟨q,_,rfl⟩:=List.mem_map.1 hp;simp) (λp hp=>by
    dsimp only at hp;unfold eE at hp;obtain⟨q,_,rfl⟩:=List.mem_map.1 hp;exact CK)) rfl rfl
   refine⟨_,ah.keep (sl:=[(0,.ptr 100034 0)]) (h:=bg {o1 with puts:=eE x o1.w.zones}),?_⟩
   conv=>whnf
   refine⟨[],_,hFi,⟨rfl,rfl,rfl⟩,?_⟩
   conv=>whnf
   refine aA ?_
   conv=>whnf
   exact .inl ⟨[],ah.keep trivial,rfl⟩
def kf(o:aX)(x:aY)(z:aB):aB:=cn o.w o.life x.zone x.hosts (bo z x.zone 2 o.life (cy o.w x.hosts))
def pY(o:aX)(x:aY)(ab:aB):Option aX:=match cG o.since o.till (kf o x o.zone)with
 |none=>none
 |some z1=>(match cG o.since o.till (kf o x ab)with
  |none=>none
  |some z2=>some (yQ (aJ (aJ o z1) z2) x))
theorem rF(w:aL)(l:List Int):(cy w l).length=l.length:=by
 unfold cy;rw[vh,ao]
theorem rG{o:aX}{z:aB}{p:ai}(h:p∈(aJ o z).puts):p∈o.puts\/(p.zone=z/\jc o.w o.got p=false):=by
 have h:p∈o.puts++cA z o.w.zones++cS z (bu o.got z.apex):=h;rw[List.append_assoc]at h;rcases List.mem_append.1 h with h|h
 . exact .inl h
 . refine .inr ⟨?_,sw p h⟩;rcases List.mem_append.1 h with h|h
   . unfold cA at h;obtain⟨q,_,rfl⟩:=List.mem_map.1 h;rfl
   . unfold cS at h;obtain⟨q,_,rfl⟩:=List.mem_map.1 h;rfl
theorem tD(o:aX)(z:aB):(aJ o z).puts.length<=o.puts.length+o.w.zones.length+(bu o.got z.apex).length:=by
 show(o.puts++cA z o.w.zones++cS z (bu o.got z.apex)).length<=_
 have:=AM z o.w.zones;simp[cS];omega
set_option maxHeartbeats 4000000 in
theorem Jh(o:aX)(x:aY)(ab:aB)(hn:o.w.zones.length<=1000)(hl:x.hosts.length<=1000)(hl0:x.hosts≠[])(hh:∀n∈x.hosts,bk o.w n=true)(hp:o.puts=[])(hs:o.stages.length<=100)(hgl:∀a,(bu o.got a).length<=1000)(hz:aR o.zone=true)(hab:aR ab=true) :
 vcp ie [100003] pvW 122 NM (λ_=>ij (pY o x ab)=none) ((fG 11 LM).getD .skip) (mT ie [100003] RY (ij (pY o x ab)))
  ⟨[(0,.ptr 100034 0),(3,.ptr 3 0),(4,.ptr 4 0)],(3,.box ((aS x).map .d))::(4,.box ((aG ab).map .d))::bg o⟩:=by
 conv=>whnf
 refine⟨_,ah.refl _,?_⟩
 conv=>whnf
 have hsl:=rF o.w x.hosts;have hsn:cy o.w x.hosts≠[]:=λe=>by rw[e]at hsl;exact hl0 (List.eq_nil_of_length_eq_zero hsl.symm)
 have hV:=bB (pv' :=pvW) (lift (cx' :=ie) (rE o.w x.hosts hl hh) rfl rfl);have hB:=bB (pv' :=pvW) (lift (cx' :=ie) (dH x.zone 2 o.life (cy o.w x.hosts)) rfl rfl);have hS1:=lift (cx' :=ie) (JD o o.zone x.zone 2 o.life (cy o.w x.hosts) x.zone x.hosts (cU hz) hh hl (by omega) (λh=>iD (oq _ _ _ _ (gj (ln hz) hsn)) h)) rfl rfl;obtain⟨r,hr⟩:∃r,r=pY o x ab:=⟨_,rfl⟩
 rw[<- hr];unfold pY kf at hr;generalize cy o.w x.hosts=sv at hsl hsn hV hB hS1 hr
 (refine⟨(by kernel_rfl:bA _=true),?_⟩;conv=>whnf)
 refine⟨[3,4,100034,90032,90040,90041],_,hV,⟨rfl,rfl,rfl⟩,?_⟩
 conv=>whnf
 refine aA ?_
 (conv=>arg 2;arg 1;reduce);(conv=>arg 2;arg 2;tactic=>(refine Eq.trans (b:=(3,.box ((aS x).map .d))::(4,.box ((aG ab).map .d))::bg o) ?_ rfl;kernel_rfl))
 conv=>whnf
 repeat (refine And.intro (by kernel_rfl:NQ.viewAt _ _ _ _=NQ.viewAt _ _ _ _) ?_;conv=>whnf)
 refine⟨[3,4,100034,90032,90040,90041],_,hB,⟨rfl,rfl,rfl⟩,?_⟩
 conv=>whnf
 refine aA ?_
 (conv=>arg 2;arg 1;reduce);(conv=>arg 2;arg 2;tactic=>(refine Eq.trans (b:=(3,.box ((aS x).map .d))::(4,.box ((aG ab).map .d))::bg o) ?_ rfl;kernel_rfl))
 conv=>whnf
 repeat (refine And.intro (by kernel_rfl:NQ.viewAt _ _ _ _=NQ.viewAt _ _ _ _) ?_;conv=>whnf)
 refine⟨_,ah.keep (sl:=[(0,.ptr 100034 0),(3,.ptr 3 0),(4,.ptr 4 0),(8,ku x.zone 2 o.life sv)]) (h:=(3,.box ((aS x).map .d))::(4,.box ((aG ab).map .d))::bg o),?_⟩
 conv=>whnf
 have hG:=bB (pv' :=pvW) (lift (cx' :=ie) (DP o x.zone x.hosts) rfl rfl);refine⟨[3,4],_,hG,⟨rfl,rfl,rfl⟩,?_⟩
 conv=>whnf
 refine aA ?_
 conv=>whnf
 refine⟨_,ah.trans (ah.name 90003 100003 rfl rfl) (ah.keep (sl:=[(0,.ptr 100034 0),(3,.ptr 3 0),(4,.ptr 4 0),(8,ku x.zone 2 o.life sv),(9,mj x.hosts x.zone)]) (h:=(3,.box ((aS x).map .d))::(4,.box ((aG ab).map .d))::gB o)),?_⟩
 conv=>whnf
 clear hV hB hG;cases hq:cG o.since o.till (cn o.w o.life x.zone x.hosts (bo o.zone x.zone 2 o.life sv))with
 |none =>
  rw[hq]at hS1 hr;subst hr;exact⟨[3,4],_,hS1,⟨by kernel_rfl,by kernel_rfl,by kernel_rfl⟩,rfl⟩
 |some z1 =>
 rw[hq]at hS1 hr;dsimp only at hr;have hz1:=cU (gO hq);refine⟨[3,4],_,hS1,⟨by kernel_rfl,by kernel_rfl,by kernel_rfl⟩,?_⟩
 conv=>whnf
 refine aA ?_
 (conv=>arg 2;arg 1;reduce);(conv=>arg 2;arg 2;tactic=>(refine Eq.trans (b:=(3,.box ((aS x).map .d))::(4,.box ((aG ab).map .d))::gB o) ?_ rfl;kernel_rfl))
 conv=>whnf
 have hSp:=lift (cx' :=ie) (jI o z1 hz1 hn (by rw[hp];simp) (hgl _)) rfl rfl;refine⟨[3,4,100003],_,hSp,⟨by kernel_rfl,by kernel_rfl,by kernel_rfl⟩,?_⟩
 conv=>whnf
 refine aA ?_
 (conv=>arg 2;arg 1;reduce);(conv=>arg 2;arg 2;tactic=>(refine Eq.trans (b:=(3,.box ((aS x).map .d))::(4,.box ((aG ab).map .d))::gB (aJ o z1)) ?_ rfl;kernel_rfl))
 conv=>whnf
 refine⟨_,ah.keep (sl:=[(0,.ptr 100034 0),(3,.ptr 3 0),(4,.ptr 4 0),(8,ku x.zone 2 o.life sv),(9,mj x.hosts x.zone)]) (h:=(3,.box ((aS x).map .d))::(4,.box ((aG ab).map .d))::gB (aJ o z1)),?_⟩
 conv=>whnf
 clear hS1 hSp hq;have hS2:=lift (cx' :=ie) (JE (aJ o z1) ab x.zone 2 o.life sv x.zone x.hosts (cU hab) hh hl (by omega) (λh=>iD (oq _ _ _ _ (gj (ln hab) hsn)) h)) rfl rfl
 change FnP _ _ _ _ _ (mr (gB (aJ o z1)) (cG o.since o.till (cn o.w o.life x.zone x.hosts (bo ab x.zone 2 o.life sv))))at hS2
 cases hq:cG o.since o.till (cn o.w o.life x.zone x.hosts (bo ab x.zone 2 o.life sv))with
 |none =>
  rw[hq]at hS2 hr;subst hr;exact⟨[3,4],_,hS2,⟨by kernel_rfl,by kernel_rfl,by kernel_rfl⟩,rfl⟩
 |some z2 =>
 rw[hq]at hS2 hr;dsimp only at hr;have hz2:=cU (gO hq);refine⟨[3,4],_,hS2,⟨by kernel_rfl,by kernel_rfl,by kernel_rfl⟩,?_⟩
 conv=>whnf
 refine aA ?_
 (conv=>arg 2;arg 1;reduce);(conv=>arg 2;arg 2;tactic=>(refine Eq.trans (b:=(3,.box ((aS x).map .d))::(4,.box ((aG ab).map .d))::gB (aJ o z1)) ?_ rfl;kernel_rfl))
 conv=>whnf
 have hl1:=tD o z1;have hg1:=hgl z1.apex;have hg2:=hgl z2.apex;rw[hp]at hl1;simp only[List.length_nil]at hl1;have hSp:=lift (cx' :=ie) (jI (aJ o z1) z2 hz2 hn (by omega) (hgl _)) rfl rfl;refine⟨[3,4,100003],_,hSp,⟨by kernel_rfl,by kernel_rfl,by kernel_rfl⟩,?_⟩
 conv=>whnf
 refine aA ?_
 (conv=>arg 2;arg 1;reduce);(conv=>arg 2;arg 2;tactic=>(refine Eq.trans (b:=(3,.box ((aS x).map .d))::(4,.box ((aG ab).map .d))::gB (aJ (aJ o z1) z2)) ?_ rfl;kernel_rfl))
 conv=>whnf
 have hl2:(aJ (aJ o z1) z2).puts.length<=100000:=by
  have:=tD (aJ o z1) z2;have h1:(aJ o z1).w.zones.length=o.w.zones.length:=rfl;have h2:(bu (aJ o z1).got z2.apex).length=(bu o.got z2.apex).length:=rfl;omega
 have hpp:∀p∈(aJ (aJ o z1) z2).puts,(p.zone=z2\/p.zone=z1)/\jc o.w o.got p=false:=λp h=>by
  rcases rG h with h|⟨h1,h2⟩
  . rcases rG h with h|⟨h1,h2⟩
    . rw[hp]at h;cases h
    . exact⟨.inr h1,h2⟩
  . exact⟨.inl h1,h2⟩
 have hT:=Ji (aJ (aJ o z1) z2) x hn hl hl2 hs hgl (λp h=>by
  rcases (hpp p h).1 with e|e
  . rw[e];have:=hz2.1;omega
  . rw[e];have:=hz1.1;omega) (λp h=>(hpp p h).2)
 conv at hT=>whnf
 rw[<- hr]at hT;exact eT hT (ah.keep)
end Go.Proofs.YtodofogcincleaaGreatDoor
namespace NP
open NQ Go
theorem ql{α:Type}(a b:List UInt8)(v:α):∀g:List (List UInt8×α),bf a (bS b v g)=if a=b then some v else bf a g
 |[]=>by
  show(if a=b then some v else none)=_
  rfl
 |(k,x)::t=>by
  have:=ql a b v t;show bf a (if b=k then(k,v)::t else(k,x)::bS b v t)=if a=b then some v else(if a=k then some x else bf a t)
  by_cases h:b=k
  . subst h;rw[if_pos rfl];show(if a=b then some v else bf a t)=_
    by_cases h2:a=b
    . rw[if_pos h2,if_pos h2]
    . rw[if_neg h2,if_neg h2,if_neg h2]
  . rw[if_neg h];show(if a=k then some x else bf a (bS b v t))=_
    rw[this];by_cases h2:a=k
    . subst h2;rw[if_pos rfl,if_neg (λe=>h e.symm),if_pos rfl]
    . rw[if_neg h2,if_neg h2]
theorem ou(w:aL):∀(l:List ai) (g:List (Bs×List Int)) (a:Bs),(bu (cV w g l) a).length<=(bu g a).length+l.length
 |[],g,a=>Nat.le_refl _
 |p::t,g,a=>by
  have h1:=ou w t (jz w g p) a;have h2:(bu (jz w g p) a).length<=(bu g a).length+1:=by
   unfold jz;split
   . unfold bu;rw[ql];split
     . rename_i e;subst e;show((bf p.zone.apex g).getD []++[p.host]).length<=_
       simp
     . omega
   . omega
  show(bu (cV w (jz w g p) t) a).length<=_
  simp only[List.length_cons];omega
end NP
namespace Go.Proofs.YtodofogcincleaaGreatDoor
open NQ Go NP Go.RowKit
def cJ(o:aX)(x:aY)(l:List Int):List ai:=(l.filter λn=> !o.w.zones.any (dY n x.zone)).map λn=>⟨n,o.zone⟩
theorem GW(o:aX)(x:aY)(l:List Int):(cJ o x l).length<=l.length:=by
 unfold cJ;rw[ao];exact List.length_filter_le ..
def nV(o:aX)(x:aY):Option aX:=if (cB o.w.zones x.zone).2=true then pY (cH {o with puts:=cJ o x x.hosts}) x (cB o.w.zones x.zone).1 else none
attribute [local irreducible] NQ.FnP
set_option maxHeartbeats 4000000 in
theorem Oj(o:aX)(x:aY)(hv:∀p∈o.w.zones,aR p.zone=true)(hn:o.w.zones.length<=1000)(hz:aR o.zone=true)(hp0:o.puts=[])(hs0:o.stages.length<=50)(hg0:o.got=[])(hl:x.hosts.length<=1000)(hl0:x.hosts≠[])(hh:∀n∈x.hosts,bk o.w n=true):FnP ie pvW 64 [.ptr 100034 0,.agg ((aS x).map .d)] (bg o) (ij (nV o x)):=by
 refine aT [100003] NM Tb QJ Tryz.func64 (by kernel_rfl) rfl (ag rfl) (ag rfl) rfl ?_
 conv=>whnf
 obtain⟨r,hr⟩:∃r,r=nV o x:=⟨_,rfl⟩
 rw[<- hr];unfold nV at hr;have hA:=bB (pv' :=pvW) (lift (cx' :=ie) (qu o.w x.zone hv (by omega)) rfl rfl);have hav:=wm (a:=x.zone) hv;generalize cB o.w.zones x.zone=ab at hA hr hav;obtain⟨ab,b⟩:=ab;dsimp only at hA hr hav;apply rV (α:=Unit) (P:=λ_=>True) (canon:=λ_=>⟨[(0,.ptr 100034 0),(3,.ptr 3 0),(4,.ptr 4 0),(5,.d (.bool b))],(3,.box ((aS x).map .d))::(4,.box ((aG ab).map .d))::bg o⟩)
 . intro rest
   (refine⟨(by kernel_rfl:bA _=true),?_⟩;conv=>whnf)
   repeat' (first
    |(refine And.intro (by kernel_rfl:NQ.viewAt _ _ _ _=NQ.viewAt _ _ _ _) ?_;conv=>whnf)
    |(refine⟨[3,100034,90032,90040,90041],_,hA,⟨rfl,rfl,rfl⟩,?_⟩;(conv=>whnf);refine aA ?_;(conv=>whnf))
    |(refine⟨[3,4,100034,90032,90040,90041],_,hA,⟨rfl,rfl,rfl⟩,?_⟩;(conv=>whnf);refine aA ?_;(conv=>whnf))
    |(refine And.intro ?_ ?_ <;> (conv=>whnf)))
   all_goals exact mB (ah.keep) (rest () trivial)
 rintro _ _;unfold App
 conv=>whnf
 cases b with
 |false =>
  rw[if_neg (by decide)]at hr;subst hr
  conv=>whnf
  have hF:=lift (cx' :=ie) (jw 4 (by decide)) rfl rfl;exact⟨[3,4,100034,90032,90040,90041],_,hF,⟨rfl,rfl,rfl⟩,rfl⟩
 |true =>
 rw[if_pos rfl]at hr
 conv=>whnf
 clear hA;refine⟨Nat×List ai,λq=>⟨[(0,.ptr 100034 0),(3,.ptr 3 0),(4,.ptr 4 0),(25,.d (.slice 1 (x.hosts.map cK))),(26,.d (.int .i64 ((x.hosts.map cK).length:Int))),(27,.d (.int .i64 q.1))],(3,.box ((aS x).map .d))::(4,.box ((aG ab).map .d))::bg {o with puts:=q.2}⟩,
  λq=>q.1<=x.hosts.length/\q.2++cJ o x (x.hosts.drop q.1)=cJ o x x.hosts/\q.2.length<=q.1,λq=>x.hosts.length-q.1,⟨(0,[]),⟨Nat.zero_le _,rfl,Nat.le_refl _⟩,ah.keep (by repeat' (first|exact trivial|refine⟨⟨rfl,rfl⟩,?_⟩)) ⟨⟨rfl,rfl⟩,⟨rfl,rfl⟩,⟨rfl,rfl⟩,⟨rfl,rfl⟩,⟨congrArg (λr:List ai=>some (Blk.row 45 3 (r.map aC))) hp0,rfl⟩,⟨rfl,rfl⟩,trivial⟩⟩,?_⟩
 rintro⟨k,ps⟩ ⟨hk,hs,hlp⟩;dsimp only at hk hs hlp
 conv=>whnf
 refine af (λh1=>?_) (λh1=>?_) <;> (rw[h1];conv=>whnf)
 . have hlt:k<x.hosts.length:=by simp at h1;omega
   obtain⟨n,hnk⟩:∃n,x.hosts[k]? =some n:=⟨_,aj hlt⟩
   have hd:cJ o x (x.hosts.drop k)=(if (!o.w.zones.any (dY n x.zone))=true then[⟨n,o.zone⟩]else[])++cJ o x (x.hosts.drop (k+1)):=by
    rw[drop_cons hnk];unfold cJ;rw[List.filter_cons];split <;> rfl
   rw[hd, <- List.append_assoc]at hs;refine⟨aw k,cK n,aD hnk,?_⟩
   conv=>whnf
   have hC:=bB (pv' :=pvW) (lift (cx' :=ie) (ka o.w n x.zone (by omega)) rfl rfl);generalize o.w.zones.any (dY n x.zone)=c at hC hs
   (refine⟨(by kernel_rfl:bA _=true),?_⟩;conv=>whnf)
   refine⟨[3,4,100034,90032,90040,90041],_,hC,⟨rfl,rfl,rfl⟩,?_⟩
   conv=>whnf
   refine aA ?_
   conv=>whnf
   cases c with
   |true =>
    rw[if_neg (by decide),List.append_nil]at hs
    conv=>whnf
    exact⟨(k+1,ps),⟨hlt,hs,by dsimp only;omega⟩,by(show x.hosts.length-(k+1)<x.hosts.length-k;omega),ah.keep ⟨ae,ae,ae,ae,ae,⟨an (k:=k) (by omega),rfl⟩,trivial⟩⟩
   |false =>
    rw[if_pos (by decide)]at hs
    conv=>whnf
    have hP:=lift (cx' :=ie) (pD {o with puts:=ps} n o.zone (cU hz) (by dsimp only;omega)) rfl rfl;refine⟨[3,4],_,hP,⟨rfl,rfl,rfl⟩,?_⟩
    conv=>whnf
    refine aA ?_
    conv=>whnf
    exact⟨(k+1,ps++[⟨n,o.zone⟩]),⟨hlt,hs,by simp;omega⟩,by(show x.hosts.length-(k+1)<x.hosts.length-k;omega),ah.keep ⟨ae,ae,ae,ae,ae,⟨an (k:=k) (by omega),rfl⟩,trivial⟩⟩
 . obtain rfl:k=x.hosts.length:=by simp at h1;omega
   rw[List.drop_length]at hs;have hs:ps=cJ o x x.hosts:=by rw[<- hs];exact(List.append_nil _).symm
   have hgl:=GW o x x.hosts;subst hs;have hpz:∀p∈cJ o x x.hosts,p.zone=o.zone:=λp hp=>by
    unfold cJ at hp;obtain⟨q,_,rfl⟩:=List.mem_map.1 hp;rfl
   have hFi:=lift (cx' :=ie) (wH {o with puts:=cJ o x x.hosts} o.zone.apex hn (by dsimp only;omega) (by dsimp only;omega) hg0 (λp hp=>by rw[hpz p hp];have:=(cU hz).1;omega) (λp hp=>by rw[hpz p hp])) rfl rfl;rw[yv]at hFi;refine⟨[3,4],_,hFi,⟨rfl,rfl,rfl⟩,?_⟩
   conv=>whnf
   refine aA ?_
   conv=>whnf
   have hT:=Jh (cH {o with puts:=cJ o x x.hosts}) x ab hn hl hl0 hh rfl (by
    show(o.stages++_).length<=100
    rw[List.length_append];split <;> simp <;> omega) (λa=>by
    have:=ou o.w (cJ o x x.hosts) o.got a;have e:bu o.got a=[]:=by rw[hg0];rfl
    rw[e]at this;show(bu (cV o.w o.got (cJ o x x.hosts)) a).length<=1000
    simp at this;omega) hz (hav rfl)
   conv at hT=>whnf
   rw[<- hr]at hT;exact eT hT (ah.keep)
end Go.Proofs.YtodofogcincleaaGreatDoor
namespace NQ
open Go Go.RowKit
theorem FnP.Pk{cx:Cx}{pv:Int->Value}{f:FuncId}{args:List AV}{ds:List D}{h:List (Nat×Blk)}{out:Option (AV×List (Nat×Blk))}(e:bN gF args=some ds)(hf:FnP cx pv f (ds.map AV.d) h out):FnP cx pv f args h out:=by
 obtain⟨e1,e2⟩:=bQ e;refine⟨hf.1,λO w σ vs hO hG hGO hdis hH hsz hrep=>hf.2 O w σ vs hO hG hGO hdis hH (by rw[ao,e1];exact hsz) λj c hj=>?_⟩;rw[aN]at hj;cases hd:ds[j]? with
 |none=>rw[hd]at hj;cases hj
 |some d =>
  rw[hd]at hj;cases hj;obtain⟨c,hc,hfc⟩:=e2 j d hd;exact .d _ _ (iC hfc (hrep j c hc))
end NQ
namespace Go.Proofs.YtodofogcincleaaGreatDoor
open NQ Go NP Go.RowKit
def vT(x:aY)(s:Signed):Bool:=(bl s.set.name x.name).1
def cF(part:aB)(l:List Int):List ai:=l.map λn=>⟨n,part⟩
def sq(o:aX)(x:aY):aB:=cn o.w o.life x.name x.hosts (bo (bo (oO (vT x) o.zone) x.name 2 o.life (cy o.w x.hosts)) x.name 6 o.life (keyOf x))
def nL(o:aX)(x:aY):Option aX:=match cG o.since o.till (sq o x)with
 |none=>none
 |some z=>some (bY (aJ o z))
def nK(o:aX)(x:aY)(part:aB):Option aX:=nL (cH {o with puts:=cF part x.hosts}) x
attribute [local irreducible] NQ.FnP
noncomputable def dX:Cx:={cx with chg:=fY [(117,10),(123,9),(132,9),(195,9),(131,9),(63,11),(111,9),(114,9),(118,9),(116,9),(120,9),(119,9),(115,9)],bld:=[74]}
theorem Te:ba dX:=aV
theorem QM:dX.P.follows .mixedOrders=true:=mixed
def DN:Nat->List Nat:=fun|1=>[33333]|2=>[33333,55555]|4=>[33333,55555,3]|5=>[55555]|10=>[33333,55555]|11=>[33333]|12=>[33333,55555,90020]|13=>[55555]|16=>[33333]|18=>[33333,55555]|19=>[33333,55555]|20=>[33333]|_=>[]
noncomputable abbrev zG:Code:=(Tryz.f67).body.getD .skip
noncomputable abbrev JO:List ResultVar:=(Tryz.f67).results.toList
theorem Fh(F:FuncId)(x:aY):FnP cxW pv0 132 [.d (.fn F [] [.ptr (aS x)])] [] (some (woA F x,[])):=by
 refine aT [] (fun|1=>[1]|_=>[]) tyW sf Tryz.func132 (by kernel_rfl) rfl (ag rfl) (ag rfl) rfl ?_
 conv=>whnf
 exact gW rfl rfl rfl
theorem xd(F:FuncId)(x:aY):FnP cxW pv0 132 [.fn F [] [.d (.ptr (aS x))]] [] (some (woA F x,[])):=FnP.Pk (ds:=[.fn F [] [.ptr (aS x)]]) rfl (Fh F x)
set_option maxHeartbeats 8000000 in
theorem Gi(o:aX)(x:aY)(hn:o.w.zones.length<=1000)(hl:x.hosts.length<=1000)(hl0:x.hosts≠[])(hh:∀n∈x.hosts,bk o.w n=true)(hp:o.puts=[])(hs:o.stages.length<=100)(hgl:∀a,(bu o.got a).length<=1000)(hz:aR o.zone=true) :
 vcp dX [100003,100004] pvW 135 DN (λ_=>ij (nL o x)=none) ((fG 19 zG).getD .skip) (mT dX [100003,100004] JO (ij (nL o x)))
  ⟨[(0,.ptr 100034 0),(3,.d (.ptr (aS x))),(7,.d (.slice 3 ((cy o.w x.hosts).map aI))),(8,mj x.hosts x.name)],gB o⟩:=by
 conv=>whnf
 refine⟨_,ah.refl _,?_⟩
 conv=>whnf
 obtain⟨r,hr⟩:∃r,r=nL o x:=⟨_,rfl⟩
 rw[<- hr];have hsl:=rF o.w x.hosts;have hsn:cy o.w x.hosts≠[]:=λe=>by rw[e]at hsl;exact hl0 (List.eq_nil_of_length_eq_zero hsl.symm)
 have hS:=lift (cx' :=dX) (JG o o.zone (vT x) x x.name 2 o.life (cy o.w x.hosts) 6 (keyOf x) x.name x.hosts (cU hz) hh hl (by omega) (by simp[keyOf]) (λs=>Gx s x) (λh=>iD (oq _ _ _ _ (gj (gj (NK _ (ln hz)) hsn) (by simp[keyOf]))) h)) rfl rfl;unfold nL sq at hr;generalize cy o.w x.hosts=sv at hsl hsn hS hr ⊢;have hW:=bB (pv' :=pvW) (lift (cx' :=dX) (xd 135 x) rfl rfl);have hK:=bB (pv' :=pvW) (lift (cx' :=dX) (nS x.key) rfl rfl);have hB:=bB (pv' :=pvW) (lift (cx' :=dX) (dH x.name 2 o.life sv) rfl rfl);have hB6:=bB (pv' :=pvW) (lift (cx' :=dX) (dH x.name 6 o.life (keyOf x)) rfl rfl)
 cases hq:cG o.since o.till (cn o.w o.life x.name x.hosts (bo (bo (oO (vT x) o.zone) x.name 2 o.life sv) x.name 6 o.life (keyOf x)))with
 |none =>
  rw[hq]at hS hr;subst hr
  (refine⟨(by kernel_rfl:bA _=true),?_⟩;conv=>whnf)
  repeat' (first
  |(refine And.intro (by kernel_rfl:NQ.viewAt _ _ _ _=NQ.viewAt _ _ _ _) ?_;conv=>whnf)
  |(refine⟨[100003,100034,90032,90040,90041],_,hW,⟨rfl,rfl,rfl⟩,?_⟩;(conv=>whnf);refine aA ?_;((conv=>arg 2;arg 1;reduce);(conv=>arg 2;arg 2;tactic=>(refine Eq.trans (b:=gB o) ?_ rfl;kernel_rfl)));(conv=>whnf))
  |(refine⟨[100003,100034,90032,90040,90041],_,hK,⟨rfl,rfl,rfl⟩,?_⟩;(conv=>whnf);refine aA ?_;((conv=>arg 2;arg 1;reduce);(conv=>arg 2;arg 2;tactic=>(refine Eq.trans (b:=gB o) ?_ rfl;kernel_rfl)));(conv=>whnf))
  |(refine⟨[100003,100034,90032,90040,90041],_,hB,⟨rfl,rfl,rfl⟩,?_⟩;(conv=>whnf);refine aA ?_;((conv=>arg 2;arg 1;reduce);(conv=>arg 2;arg 2;tactic=>(refine Eq.trans (b:=gB o) ?_ rfl;kernel_rfl)));(conv=>whnf))
  |(refine⟨[100003,100034,90032,90040,90041],_,hB6,⟨rfl,rfl,rfl⟩,?_⟩;(conv=>whnf);refine aA ?_;((conv=>arg 2;arg 1;reduce);(conv=>arg 2;arg 2;tactic=>(refine Eq.trans (b:=gB o) ?_ rfl;kernel_rfl)));(conv=>whnf))
  |exact⟨[],_,hS,⟨by kernel_rfl,by kernel_rfl,by kernel_rfl⟩,rfl⟩
  |(refine And.intro ?_ ?_ <;> (conv=>whnf)))
 |some z =>
 rw[hq]at hS hr;dsimp only at hr;have hz1:=cU (gO hq);have hSp:=lift (cx' :=dX) (jI o z hz1 hn (by rw[hp];simp) (hgl _)) rfl rfl;have hl1:=tD o z;have hg1:=hgl z.apex;rw[hp]at hl1;simp only[List.length_nil]at hl1;have hpp:∀p∈(aJ o z).puts,p.zone=z/\jc o.w o.got p=false:=λp h=>by
  rcases rG h with h|h
  . rw[hp]at h;cases h
  . exact h
 have hFi:=lift (cx' :=dX) (jZ (aJ o z) hn (by omega) (by show o.stages.length<=1000;omega) hgl (λp h=>by rw[(hpp p h).1];have:=hz1.1;omega) (λp h=>(hpp p h).2)) rfl rfl
 (refine⟨(by kernel_rfl:bA _=true),?_⟩;conv=>whnf)
 repeat' (first
  |(refine And.intro (by kernel_rfl:NQ.viewAt _ _ _ _=NQ.viewAt _ _ _ _) ?_;conv=>whnf)
  |(refine⟨[100003,100034,90032,90040,90041],_,hW,⟨rfl,rfl,rfl⟩,?_⟩;(conv=>whnf);refine aA ?_;((conv=>arg 2;arg 1;reduce);(conv=>arg 2;arg 2;tactic=>(refine Eq.trans (b:=gB o) ?_ rfl;kernel_rfl)));(conv=>whnf))
  |(refine⟨[100003,100034,90032,90040,90041],_,hK,⟨rfl,rfl,rfl⟩,?_⟩;(conv=>whnf);refine aA ?_;((conv=>arg 2;arg 1;reduce);(conv=>arg 2;arg 2;tactic=>(refine Eq.trans (b:=gB o) ?_ rfl;kernel_rfl)));(conv=>whnf))
  |(refine⟨[100003,100034,90032,90040,90041],_,hB,⟨rfl,rfl,rfl⟩,?_⟩;(conv=>whnf);refine aA ?_;((conv=>arg 2;arg 1;reduce);(conv=>arg 2;arg 2;tactic=>(refine Eq.trans (b:=gB o) ?_ rfl;kernel_rfl)));(conv=>whnf))
  |(refine⟨[100003,100034,90032,90040,90041],_,hB6,⟨rfl,rfl,rfl⟩,?_⟩;(conv=>whnf);refine aA ?_;((conv=>arg 2;arg 1;reduce);(conv=>arg 2;arg 2;tactic=>(refine Eq.trans (b:=gB o) ?_ rfl;kernel_rfl)));(conv=>whnf))
  |(refine⟨[],_,hS,⟨by kernel_rfl,by kernel_rfl,by kernel_rfl⟩,?_⟩;(conv=>whnf);refine aA ?_;((conv=>arg 2;arg 1;reduce);(conv=>arg 2;arg 2;tactic=>(refine Eq.trans (b:=gB o) ?_ rfl;kernel_rfl)));(conv=>whnf))
  |(refine⟨[100003],_,hSp,⟨by kernel_rfl,by kernel_rfl,by kernel_rfl⟩,?_⟩;(conv=>whnf);refine aA ?_;((conv=>arg 2;arg 1;reduce);(conv=>arg 2;arg 2;tactic=>(refine Eq.trans (b:=gB (aJ o z)) ?_ rfl;kernel_rfl)));(conv=>whnf))
  |(refine⟨[100003],_,hFi,⟨by kernel_rfl,by kernel_rfl,by kernel_rfl⟩,?_⟩;(conv=>whnf);refine aA ?_;((conv=>arg 2;arg 1;reduce);(conv=>arg 2;arg 2;tactic=>(refine Eq.trans (b:=gB (bY (aJ o z))) ?_ rfl;kernel_rfl)));(conv=>whnf))
  |(refine And.intro ?_ ?_ <;> (conv=>whnf)))
 all_goals subst hr
 all_goals exact .inl ⟨[],ah.keep trivial,rfl⟩
set_option maxHeartbeats 8000000 in
theorem Gh(o:aX)(x:aY)(part:aB)(hpz:ZSm part)(hn:o.w.zones.length<=1000)(hl:x.hosts.length<=1000)(hl0:x.hosts≠[])(hh:∀n∈x.hosts,bk o.w n=true)(hp:o.puts=[])(hs:o.stages.length<=50)(hg0:o.got=[])(hz:aR o.zone=true) :
 vcp dX [100003,100004] pvW 135 DN (λ_=>ij (nK o x part)=none) ((fG 13 zG).getD .skip) (mT dX [100003,100004] JO (ij (nK o x part)))
  ⟨[(0,.ptr 100034 0),(3,.d (.ptr (aS x))),(5,.ptr 100004 0),(7,.d (.slice 3 ((cy o.w x.hosts).map aI))),(8,mj x.hosts x.name)],(100004,.box ((aG part).map .d))::gB o⟩:=by
 conv=>whnf
 refine⟨_,ah.refl _,?_⟩
 conv=>whnf
 generalize hsv:cy o.w x.hosts=sv
 refine⟨Nat,λk=>⟨[(0,.ptr 100034 0),(3,.d (.ptr (aS x))),(5,.ptr 100004 0),(7,.d (.slice 3 (sv.map aI))),(8,mj x.hosts x.name),(90,.d (.slice 1 (x.hosts.map cK))),(91,.d (.int .i64 ((x.hosts.map cK).length:Int))),(92,.d (.int .i64 k))],(100004,.box ((aG part).map .d))::gB {o with puts:=cF part (x.hosts.take k)}⟩,
  λk=>k<=x.hosts.length,λk=>x.hosts.length-k,⟨0,Nat.zero_le _,ah.keep (by repeat' (first|exact trivial|refine⟨⟨rfl,rfl⟩,?_⟩)) ⟨⟨rfl,rfl⟩,⟨rfl,rfl⟩,⟨rfl,rfl⟩,⟨rfl,rfl⟩,⟨congrArg (λr:List ai=>some (Blk.row 45 3 (r.map aC))) hp,rfl⟩,⟨rfl,rfl⟩,trivial⟩⟩,λk hk=>?_⟩
 conv=>whnf
 refine af (λh1=>?_) (λh1=>?_) <;> (rw[h1];conv=>whnf)
 . have hlt:k<x.hosts.length:=by simp at h1;omega
   obtain⟨n,hnk⟩:∃n,x.hosts[k]? =some n:=⟨_,aj hlt⟩
   refine⟨aw k,cK n,aD hnk,?_⟩
   conv=>whnf
   have hP:=lift (cx' :=dX) (pD {o with puts:=cF part (x.hosts.take k)} n part hpz (by simp[cF];omega)) rfl rfl;refine⟨[100003,100004],_,hP,⟨rfl,rfl,rfl⟩,?_⟩
   conv=>whnf
   refine aA ?_
   conv=>whnf
   have e:cF part (x.hosts.take k)++[⟨n,part⟩]=cF part (x.hosts.take (k+1)):=by
    unfold cF;rw[List.take_add_one,hnk];simp
   exact⟨k+1,hlt,by(show x.hosts.length-(k+1)<x.hosts.length-k;omega),ah.keep ⟨ae,ae,ae,ae,ae,ae,ae,⟨an (k:=k) (by omega),rfl⟩,trivial⟩ ⟨ae,ae,ae,ae,⟨congrArg (λr:List ai=>some (Blk.row 45 3 (r.map aC))) e,rfl⟩,ae,trivial⟩⟩
 . obtain rfl:k=x.hosts.length:=by simp at h1;omega
   have e:cF part (x.hosts.take x.hosts.length)=cF part x.hosts:=by rw[List.take_length]
   refine⟨_,ah.keep (sl:=[(0,.ptr 100034 0),(3,.d (.ptr (aS x))),(7,.d (.slice 3 (sv.map aI))),(8,mj x.hosts x.name)]) (h:=gB {o with puts:=cF part x.hosts}) (by repeat' (first|exact trivial|refine⟨⟨rfl,rfl⟩,?_⟩)) ⟨⟨rfl,rfl⟩,⟨rfl,rfl⟩,⟨rfl,rfl⟩,⟨congrArg (λr:List ai=>some (Blk.row 45 3 (r.map aC))) e,rfl⟩,⟨rfl,rfl⟩,trivial⟩,?_⟩
   conv=>whnf
   have hpp:∀p∈cF part x.hosts,p.zone=part:=λp h=>by
    unfold cF at h;obtain⟨q,_,rfl⟩:=List.mem_map.1 h;rfl
   have hpl:(cF part x.hosts).length=x.hosts.length:=by simp[cF]
   have hFi:=lift (cx' :=dX) (wH {o with puts:=cF part x.hosts} part.apex hn (by dsimp only;omega) (by dsimp only;omega) hg0 (λp h=>by rw[hpp p h];have:=hpz.1;omega) (λp h=>by rw[hpp p h])) rfl rfl;rw[yv]at hFi;refine⟨[100003],_,hFi,⟨rfl,rfl,rfl⟩,?_⟩
   conv=>whnf
   refine aA ?_
   conv=>whnf
   have hT:=Gi (cH {o with puts:=cF part x.hosts}) x hn hl hl0 hh rfl (by
    show(o.stages++_).length<=100
    rw[List.length_append];split <;> simp <;> omega) (λa=>by
    have:=ou o.w (cF part x.hosts) o.got a;have e:bu o.got a=[]:=by rw[hg0];rfl
    rw[e]at this;show(bu (cV o.w o.got (cF part x.hosts)) a).length<=1000
    simp at this;omega) hz
   have hsv2:cy (cH {o with puts:=cF part x.hosts}).w x.hosts=sv:=hsv;rw[hsv2]at hT
   conv at hT=>whnf
   exact eT hT (ah.keep)
end Go.Proofs.YtodofogcincleaaGreatDoor
