/-
  Merged texts.
-/
import Derived.Test.YtjapjahfllomkaaGreatDoorMGa
import Derived.Test.YtjapjahfllomkaaGreatDoorQsoM
import Derived.Test.YtjapjahfllomkaaGreatDoorSortM
set_option linter.all false
set_option maxRecDepth 100000
namespace NP
open NQ Go
theorem Eg(s:Bs):0<=gD s/\gD s<=8:=by
 unfold gD dH;split
 . rename_i h;have:=Iu h;dsimp only;omega
 . simp
def jW(a b:aF):Int:=gD b.apex-gD a.apex
def LA:List D->Bs
 | .str s::_=>s
 |_=>[]
def QO(x y:List D):Int:=gD (LA y)-gD (LA x)
theorem wy(l:List aF):jn jW l:=jn.key (λz=> -gD z.apex) λx _ y _=>by unfold jW;omega
theorem KR(l:List aF):dm QO (l.map aW)=(dm jW l).map aW:=vW aW jW QO l λx _ y _=>rfl
def mw(k:Int)(q:aV)(p:ai):Bool:=decide (p.host=k)&&(bz q.name p.zone.apex).1
def cO(zs:List ai)(k:Int)(q:aV):List aF:=(zs.filter (mw k q)).map (·.zone)
def cN(l:List dD)(a:Int):Int:=match l.findIdx? (λh=>h.addr==a)with|some k=>(k:Int)|none=> -1
def ph(q:aV)(l:List aF):Option aF:=match l with
 |[]=>none
 |z::t=>if ((q.type==6)&&(z.apex==q.name))=true then(match t with|y::_=>some y|[]=>some z)else some z
def mF(w:ay)(a:Int)(q:aV):Ans×Int :=
 if (aK w&&bK q)=false then(iV,1)else if cN w.hosts a<0 then(iV,4)
 else match ph q (dm jW (cO w.zones (cN w.hosts a) q))with
  |none=>(⟨7,[],[]⟩,0)
  |some z=>cu z q
end NP
namespace Go.Proofs.YtjapjahfllomkaaGreatDoor
open NQ Go NP Go.RowKit
noncomputable def yh:Cx:={cx with chg:=λg=>match Nat.beq g 153 with|true=>2|false=>cx.chg g}
theorem UD:bo yh:=aO
theorem Sf:yh.P.follows .mixedOrders=true:=mixed
theorem Ro(a b:aF):NQ.Fn cx 154 [.agg (aW a),.agg (aW b)] (.d (.int .i64 (jW a b))) []:=by
 refine aA aO mixed Tryz.func154 (by kernel_rfl) rfl (ah rfl) ?_;conv=>whnf
 (refine⟨(by kernel_rfl:bf _ _=true),?_⟩;conv=>whnf)
 (refine⟨_,_,CJ b.apex,?_⟩;conv=>whnf)
 (refine⟨_,_,CJ a.apex,?_⟩;conv=>whnf)
 refine af rfl ?_;show AV.d (.int .i64 (IntKind.i64.wrap (gD b.apex-gD a.apex)))=_
 have h1:=Eg a.apex;have h2:=Eg b.apex;rw[wrap_i64 (by omega) (by omega)];rfl
theorem Nr(l:List aF)(hl:l.length<=100000)(fl:Bool):FnR cx 153 false 43 2 (l.map aW) fl [.fn 154 [] []] ((dm jW l).map aW):=by
 rw[<- KR];exact yN (cx:=cx) (ρ:=Tryz.xG) Tryz.Sy (k:=2) Tryz.isAgg43 Tryz.sizeOf43 ⟨_,Tryz.func153,by kernel_rfl,rfl⟩
  (λx hx y hy=>by
   obtain⟨a,ha,rfl⟩:=List.mem_map.1 hx;obtain⟨b,hb,rfl⟩:=List.mem_map.1 hy;exact Ro a b) (enters_of Tryz.func154 (by kernel_rfl) rfl) ((wy l).map λx _ y _=>rfl) (by rw[ak];omega)
end Go.Proofs.YtjapjahfllomkaaGreatDoor
namespace NP
open NQ Go
def fE(ok:ai->Bool)(better:ai->ai->Bool):Nat->List ai->Option (Nat×ai)->Option (Nat×ai)
 |_,[],b=>b
 |i,p::t,b=>fE ok better (i+1) t (if ok p=true then(match b with|none=>some (i,p)|some x=>if better p x.2=true then some (i,p)else b)else b)
def Fu:Option (Nat×ai)->Int
 |none=> -1
 |some x=>(x.1:Int)
def bO(ok:ai->Bool)(better:ai->ai->Bool)(i:Nat)(p:ai)(b:Option (Nat×ai)):Option (Nat×ai):=if ok p=true then(match b with|none=>some (i,p)|some x=>if better p x.2=true then some (i,p)else b)else b
theorem BN{ok:ai->Bool}{better:ai->ai->Bool}{l:List ai}{k:Nat}{p:ai}(h:l[k]? =some p)(b:Option (Nat×ai)):fE ok better k (l.drop k) b=fE ok better (k+1) (l.drop (k+1)) (bO ok better k p b):=by
 rw[drop_cons h];rfl
def iS(zs:List ai)(b:Option (Nat×ai)):Prop:= ∀x,b=some x->zs[x.1]? =some x.2
theorem iS.step{zs:List ai}{b:Option (Nat×ai)}(h:iS zs b){ok:ai->Bool}{better:ai->ai->Bool}{i:Nat}{p:ai}(hp:zs[i]? =some p):iS zs (bO ok better i p b):=by
 intro x hx;unfold bO at hx;split at hx
 . split at hx
   . cases hx;exact hp
   . split at hx
     . cases hx;exact hp
     . exact h x hx
 . exact h x hx
theorem AS{zs:List ai}{ok:ai->Bool}{better:ai->ai->Bool}:∀(l:List ai) (i:Nat) (b:Option (Nat×ai)),(∀j,l[j]? =zs[i+j]?)->iS zs b->iS zs (fE ok better i l b)
 |[],i,b,_,h=>h
 |p::t,i,b,hl,h=>AS t (i+1) _ (λj=>by have:=hl (j+1);simp at this;rw[this];congr 1;omega) (h.step (by have:=hl 0;simpa using this.symm))
theorem km{ok:ai->Bool}{better:ai->ai->Bool}:∀(l:List ai) (i:Nat) (b:Option (Nat×ai)),fE ok better i l b=none ↔ (b=none/\ ∀p∈l,ok p=false)
 |[],i,b=>by simp[fE]
 |p::t,i,b=>by
  show fE ok better (i+1) t (bO ok better i p b)=none ↔ _
  rw[km t];unfold bO;cases hp:ok p <;> cases b <;> simp[hp];intro h;split at h <;> cases h
theorem DP{ok:ai->Bool}{key:ai->Int}:∀(l:List ai) (i:Nat) (b:Option (Nat×ai)) (x:Nat×ai),fE ok (λp q=>decide (key q<key p)) i l b=some x ->
 (b=some x\/(x.2∈l/\ok x.2=true))/\(∀y,b=some y->key y.2<=key x.2)/\ ∀p∈l,ok p=true->key p<=key x.2
 |[],i,b,x,h=>by cases h;exact⟨.inl rfl,λy hy=>by cases hy;exact Int.le_refl _,λp hp=>by cases hp⟩
 |p::t,i,b,x,h=>by
  obtain⟨h1,h2,h3⟩:=DP t (i+1) (bO ok (λp q=>decide (key q<key p)) i p b) x h;unfold bO at h1 h2;by_cases hp:ok p=true
  . rw[if_pos hp]at h1 h2;cases b with
    |none =>
     refine⟨.inr ?_,λy hy=>(by cases hy),λq hq hoq=>?_⟩
     . rcases h1 with h1|h1
       . cases h1;exact⟨List.mem_cons_self .., hp⟩
       . exact⟨aM _ h1.1,h1.2⟩
     . rcases List.mem_cons.1 hq with rfl|hq
       . exact h2 (i,q) rfl
       . exact h3 q hq hoq
    |some y =>
     dsimp only at h1 h2;by_cases hb:key y.2<key p
     . rw[if_pos (decide_eq_true hb)]at h1 h2;have hpx:=h2 (i,p) rfl;refine⟨.inr ?_,λz hz=>by cases hz;dsimp only at hpx;omega,λq hq hoq=>?_⟩
       . rcases h1 with h1|h1
         . cases h1;exact⟨List.mem_cons_self .., hp⟩
         . exact⟨aM _ h1.1,h1.2⟩
       . rcases List.mem_cons.1 hq with rfl|hq
         . exact hpx
         . exact h3 q hq hoq
     . rw[if_neg (by simpa using hb)]at h1 h2;have hyx:=h2 y rfl;refine⟨?_,λz hz=>h2 z hz,λq hq hoq=>?_⟩
       . rcases h1 with h1|h1
         . exact .inl h1
         . exact .inr ⟨aM _ h1.1,h1.2⟩
       . rcases List.mem_cons.1 hq with rfl|hq
         . omega
         . exact h3 q hq hoq
  . rw[if_neg hp]at h1 h2;refine⟨?_,h2,λq hq hoq=>?_⟩
    . rcases h1 with h1|h1
      . exact .inl h1
      . exact .inr ⟨aM _ h1.1,h1.2⟩
    . rcases List.mem_cons.1 hq with rfl|hq
      . exact absurd hoq hp
      . exact h3 q hq hoq
def dU(s:Bs):Int:=((bj s).length:Int)
theorem Gw{s:Bs}(h:au s=true):gD s=dU s:=by unfold gD dU dH;rw[if_pos h]
theorem FT{s a:Bs}(hs:au s=true)(ha:au a=true):(bz s a).1=aH s a:=by unfold bz;rw[if_pos ⟨hs,ha⟩]
theorem yT{s:Bs}(h:au s=true):s≠[]:=by rintro rfl;revert h;decide
def ig(host:Int)(nm nt:Bs)(p:ai):Bool:= !((decide (host>=0)&&(p.host != host))||(p.zone.apex==nt)|| !aH nm p.zone.apex)
def oO(p:ai):Int:=dU p.zone.apex
def zC(p q:ai):Bool:=decide (oO q<oO p)
def fq(zs:List ai)(host:Int)(nm nt:Bs):Option (Nat×ai):=fE (ig host nm nt) zC 0 zs none
def aR(zs:List ai)(a:Bs):Option (Nat×ai):=fE (λp=>p.zone.apex==a) dO 0 zs none
theorem CC{zs:List ai}{a:Bs}:∀(l:List ai) (i:Nat) (m:List (Bs×Nat)) (b:Option (Nat×ai)),(∀j,l[j]? =zs[i+j]?)->iS zs b->fR a m=b.map (·.1)->fR a (lN zs i l m)=(fE (λp=>p.zone.apex==a) dO i l b).map (·.1)
 |[],i,m,b,_,_,h=>h
 |p::t,i,m,b,hl,hb,h=>by
  have hp:zs[i]? =some p:=by have:=hl 0;simpa using this.symm
  show fR a (lN zs (i+1) t (if iO zs m p=true then nJ p.zone.apex i m else m))=(fE (λp=>p.zone.apex==a) dO (i+1) t (bO (λp=>p.zone.apex==a) dO i p b)).map (·.1)
  refine CC t (i+1) _ _ (λj=>by have:=hl (j+1);simp at this;rw[this];congr 1;omega) (hb.step hp) ?_;by_cases ha:p.zone.apex=a
  . have hb' :∀b,bO (λp=>p.zone.apex==a) dO i p b=(match b with|none=>some (i,p)|some x=>if dO p x.2=true then some (i,p)else b):=λb=>by
     unfold bO;exact if_pos (by show(p.zone.apex==a)=true;rw[ha];exact beq_self_eq_true a)
    rw[hb'];cases b with
    |none =>
     have ht:iO zs m p=true:=by unfold iO;rw[ha,h];rfl
     rw[if_pos ht,oG,if_pos ha];rfl
    |some x =>
     have hx:=hb x rfl;have ht:iO zs m p=dO p x.2:=by unfold iO;rw[ha,h];simp only[Option.map_some];rw[hx]
     dsimp only;rw[ht];split
     . rw[oG,if_pos ha];rfl
     . exact h
  . have hb' :bO (λp=>p.zone.apex==a) dO i p b=b:=by unfold bO;exact if_neg (by simpa using ha)
    rw[hb'];split
    . rw[oG,if_neg ha];exact h
    . exact h
theorem Nz(zs:List ai)(a:Bs):fR a (gi zs)=(aR zs a).map (·.1):=CC zs 0 [] none (λj=>by rw[Nat.zero_add]) (λx hx=>by cases hx) rfl
theorem tg(zs:List ai)(a:Bs):iS zs (aR zs a):=AS zs 0 none (λj=>by rw[Nat.zero_add]) (λx hx=>by cases hx)
theorem Ef(zs:List ai)(h:Int)(nm nt:Bs):iS zs (fq zs h nm nt):=AS zs 0 none (λj=>by rw[Nat.zero_add]) (λx hx=>by cases hx)
theorem uk{n:Nat}:∀(l seen:List ai),dx n seen l=true->l.Pairwise (λx p=>cr p x=false)/\ ∀p∈l,seen.any (cr p)=false
 |[],_,_=>⟨List.Pairwise.nil,λp hp=>by cases hp⟩
 |x::t,seen,h=>by
  unfold dx at h;simp only[aB,Bool.not_eq_true',Bool.or_eq_false_iff]at h;obtain⟨h1,h2⟩:=uk t _ h.2;refine⟨List.Pairwise.cons (λp hp=>?_) h1,λp hp=>?_⟩
  . have:=h2 p hp;rw[List.any_append]at this;simp only[Bool.or_eq_false_iff,List.any_cons,List.any_nil,jl]at this;exact this.2
  . rcases List.mem_cons.1 hp with rfl|hp
    . exact h.1.1.2
    . have:=h2 p hp;rw[List.any_append]at this;simp only[Bool.or_eq_false_iff]at this;exact this.1
theorem sf{w:ay}(h:aK w=true):w.zones.Pairwise (λx p=>cr p x=false):=by
 unfold aK iX at h;simp only[aB]at h;exact(uk _ _ h.1.2.1.2).1
theorem qT:∀{zs:List ai},zs.Pairwise (λx p=>cr p x=false)-> ∀{p q:ai},p∈zs->q∈zs->p.host=q.host->p.zone.apex=q.zone.apex->p=q
 |[],_,p,q,hp,_,_,_=>by cases hp
 |x::t,h,p,q,hp,hq,e1,e2=>by
  cases h with|cons h1 h2 =>
  rcases List.mem_cons.1 hp with hp' |hp'
  . rcases List.mem_cons.1 hq with hq' |hq'
    . rw[hp',hq']
    . have:=h1 q hq';rw[<- hp']at this;unfold cr at this;simp[e1,e2]at this
  . rcases List.mem_cons.1 hq with hq' |hq'
    . have:=h1 p hp';rw[<- hq']at this;unfold cr at this;simp[e1,e2]at this
    . exact qT h2 hp' hq' e1 e2
theorem yw{a b s:Bs}(ha:aH s a=true)(hb:aH s b=true)(h:dU a=dU b):a=b:=by
 have h1:=(dE _ _).1 ha;have h2:=(dE _ _).1 hb;refine sU ?_;have hl:(back a).length=(back b).length:=by
  unfold dU at h;rw[back_eq,back_eq,List.length_reverse,List.length_reverse];omega
 obtain⟨x,hx⟩:=h1;obtain⟨y,hy⟩:=h2;exact(List.append_inj (hx.trans hy.symm) hl).1
def qq(zs:List ai)(K:Int)(q:aV):Option (Nat×ai):=match (if (q.type==6)=true then fq zs K q.name q.name else none)with
 |some x=>some x
 |none=>fq zs K q.name []
def vR(zs:List ai)(K:Int)(q:aV):Ans:=match qq zs K q with
 |none=>⟨7,[],[]⟩
 |some x=>(cu x.2.zone q).1
structure Di(zs:List ai):Prop where
 valid:∀p∈zs,au p.zone.apex=true
 pair:zs.Pairwise (λx p=>cr p x=false)
theorem tn{zs:List ai}{K:Int}{nm nt:Bs}{x:Nat×ai}(h:fq zs K nm nt=some x):x.2∈zs/\ig K nm nt x.2=true/\ ∀p∈zs,ig K nm nt p=true->oO p<=oO x.2:=by
 obtain⟨h1,_,h3⟩:=DP zs 0 none x h;rcases h1 with h1|h1
 . cases h1
 . exact⟨h1.1,h1.2,h3⟩
theorem gJ{K:Int}(hK:0<=K){nm nt:Bs}{p:ai}:ig K nm nt p=true ↔ p.host=K/\p.zone.apex≠nt/\aH nm p.zone.apex=true:=by
 unfold ig;rw[decide_eq_true hK];simp;constructor
 . rintro⟨⟨h1,h2⟩,h3⟩;exact⟨h1,h2,h3⟩
 . rintro⟨h1,h2,h3⟩;exact⟨⟨h1,h2⟩,h3⟩
theorem Mt{zs:List ai}(hA:Di zs){K:Int}{q:aV}(hn:au q.name=true){z:aF}:z∈cO zs K q ↔ ∃p∈zs,p.host=K/\aH q.name p.zone.apex=true/\p.zone=z:=by
 unfold cO;rw[List.mem_map];constructor
 . rintro⟨p,hp,rfl⟩;obtain⟨h1,h2⟩:=List.mem_filter.1 hp;unfold mw at h2;simp only[aB,decide_eq_true_eq]at h2;exact⟨p,h1,h2.1,(FT hn (hA.valid p h1)) ▸ h2.2,rfl⟩
 . rintro⟨p,hp,h1,h2,rfl⟩;refine⟨p,List.mem_filter.2 ⟨hp,?_⟩,rfl⟩;unfold mw;simp only[aB,decide_eq_true_eq];exact⟨h1,(FT hn (hA.valid p hp)).trans h2⟩
theorem JS{zs:List ai}(hA:Di zs){K:Int}{q:aV}:(cO zs K q).Pairwise (λa b=>a.apex≠b.apex):=by
 unfold cO;rw[List.pairwise_map];have h:=hA.pair.filter (mw K q);refine List.Pairwise.imp_of_mem ?_ h;intro a b ha hb hab e;have ha' :=(List.mem_filter.1 ha).2;have hb' :=(List.mem_filter.1 hb).2;unfold mw at ha' hb';simp only[aB,decide_eq_true_eq]at ha' hb';unfold cr at hab;simp[ha'.1,hb'.1,e]at hab
theorem Ky{zs:List ai}(hA:Di zs){K:Int}(hK:0<=K){q:aV}(hn:au q.name=true):ph q (dm jW (cO zs K q))=(qq zs K q).map λx=>x.2.zone:=by
 have hperm:=gP (wy (cO zs K q));have hsort:=qs (wy (cO zs K q));have hpair:(dm jW (cO zs K q)).Pairwise (λa b=>a.apex≠b.apex):=(hperm.pairwise_iff (λ{x y} h=>Ne.symm h)).2 (JS hA);have hmem:∀z,z∈dm jW (cO zs K q) ↔ ∃p∈zs,p.host=K/\aH q.name p.zone.apex=true/\p.zone=z:=λz=>hperm.mem_iff.trans (Mt hA hn)
 generalize dm jW (cO zs K q)=L at *
 have hdep:∀z∈L,gD z.apex=dU z.apex:=λz hz=>by
  obtain⟨p,hp,_,_,rfl⟩:=(hmem z).1 hz;exact Gw (hA.valid p hp)
 have hsrt:∀{z t},L=z::t-> ∀y∈t,dU y.apex<=dU z.apex:=λ{z t} e y hy=>by
  subst e;cases hsort with|cons h1 h2 =>
  have:=h1 y hy;unfold jW at this;rw[hdep z (by simp),hdep y (by simp[hy])]at this;omega
 have one:∀{p p' :ai},p∈zs->p' ∈zs->p.host=K->p'.host=K->aH q.name p.zone.apex=true->aH q.name p'.zone.apex=true->oO p=oO p' ->p=p' :=λhp hp' h1 h2 u1 u2 hk=>qT hA.pair hp hp' (h1.trans h2.symm) (yw u1 u2 hk)
 have ne0:∀p∈zs,p.zone.apex≠[]:=λp hp=>yT (hA.valid p hp)
 unfold qq;cases L with
 |nil =>
  have no:∀nt,fq zs K q.name nt=none:=λnt=>by
   unfold fq;rw[km];refine⟨rfl,λp hp=>?_⟩;cases hc:ig K q.name nt p with
   |false=>rfl
   |true =>
    obtain⟨h1,h2,h3⟩:=(gJ hK).1 hc;have:=(hmem p.zone).2 ⟨p,hp,h1,h3,rfl⟩;cases this
  rw[no,no];simp[ph]
 |cons z t =>
  obtain⟨pz,hpz,hzh,hzu,rfl⟩:=(hmem z).1 (List.mem_cons_self ..);have hmax:∀p∈zs,p.host=K->aH q.name p.zone.apex=true->oO p<=oO pz:=λp hp h1 h2=>by
   have hm:=(hmem p.zone).2 ⟨p,hp,h1,h2,rfl⟩;rcases List.mem_cons.1 hm with e|hm
   . unfold oO;rw[e];exact Int.le_refl _
   . exact hsrt rfl _ hm
  have found:∀nt (p:ai),p∈zs->p.host=K->aH q.name p.zone.apex=true->p.zone.apex≠nt->(∀p' ∈zs,p'.host=K->aH q.name p'.zone.apex=true->p'.zone.apex≠nt->oO p' <=oO p)-> ∃i,fq zs K q.name nt=some (i,p):=λnt p hp h1 h2 h3 hm=>by
   cases hd:fq zs K q.name nt with
   |none =>
    unfold fq at hd;rw[km]at hd;have:=hd.2 p hp;rw[(gJ hK).2 ⟨h1,h3,h2⟩]at this;cases this
   |some x =>
    obtain⟨m1,m2,m3⟩:=tn hd;obtain⟨k1,k2,k3⟩:=(gJ hK).1 m2;have g1:=m3 p hp ((gJ hK).2 ⟨h1,h3,h2⟩);have g2:=hm x.2 m1 k1 k3 k2;have:p=x.2:=one hp m1 h1 k1 h2 k3 (by omega);exact⟨x.1,by rw[this]⟩
  obtain⟨i0,hi0⟩:=found [] pz hpz hzh hzu (ne0 pz hpz) λp hp h1 h2 _=>hmax p hp h1 h2
  rw[hi0];unfold ph;dsimp only;by_cases h6:(q.type==6)=true
  . rw[if_pos h6,h6,dC];by_cases hap:(pz.zone.apex==q.name)=true
    . rw[if_pos hap];have hap' :pz.zone.apex=q.name:=by simpa using hap
      cases t with
      |nil =>
       have:fq zs K q.name q.name=none:=by
        unfold fq;rw[km];refine⟨rfl,λp hp=>?_⟩;cases hc:ig K q.name q.name p with
        |false=>rfl
        |true =>
         obtain⟨h1,h2,h3⟩:=(gJ hK).1 hc;have:=(hmem p.zone).2 ⟨p,hp,h1,h3,rfl⟩;simp only[List.mem_singleton]at this;exact absurd (by rw[this];exact hap') h2
       rw[this];rfl
      |cons y t =>
       obtain⟨py,hpy,hyh,hyu,rfl⟩:=(hmem y).1 (by simp);have hne:py.zone.apex≠q.name:=by
        cases hpair with|cons g1 g2 =>
        have:=g1 py.zone (List.mem_cons_self ..);rw[hap']at this;exact Ne.symm this
       have hsrt2:∀y' ∈t,dU y'.apex<=dU py.zone.apex:=λy' hy' =>by
        cases hsort with|cons g1 g2 =>
        cases g2 with|cons g3 g4 =>
        have:=g3 y' hy';unfold jW at this;rw[hdep py.zone (by simp),hdep y' (by simp[hy'])]at this;omega
       obtain⟨i1,hi1⟩:=found q.name py hpy hyh hyu hne λp hp h1 h2 h3=>by
        have hm:=(hmem p.zone).2 ⟨p,hp,h1,h2,rfl⟩;rcases List.mem_cons.1 hm with e|hm
        . exact absurd (by rw[e];exact hap') h3
        . rcases List.mem_cons.1 hm with e|hm
          . unfold oO;rw[e];exact Int.le_refl _
          . exact hsrt2 _ hm
       rw[hi1];rfl
    . rw[if_neg hap];have hap' :pz.zone.apex≠q.name:=by simpa using hap
      obtain⟨i1,hi1⟩:=found q.name pz hpz hzh hzu hap' λp hp h1 h2 _=>hmax p hp h1 h2
      rw[hi1];rfl
  . rw[if_neg h6];have:(q.type==6)=false:=by simpa using h6
    rw[this,gW];rfl
def eu(l:List ai):List Bs:=l.foldl (λout p=>if out.contains p.zone.apex=true then out else out++[p.zone.apex]) []
theorem rz(l:List ai)(p:ai):eu (l++[p])=if (eu l).contains p.zone.apex=true then eu l else eu l++[p.zone.apex]:=by unfold eu;rw[List.foldl_append];rfl
theorem Je(l:List ai):(eu l).length<=l.length:=by
 have key:∀(l:List ai) (out:List Bs),(l.foldl (λout p=>if out.contains p.zone.apex=true then out else out++[p.zone.apex]) out).length<=out.length+l.length:=λl=>by
  induction l with
  |nil=>intro out;simp
  |cons p t ih =>
   intro out;refine Nat.le_trans (ih _) ?_;dsimp only;split <;> simp <;> omega
 have:=key l [];rw[List.length_nil,Nat.zero_add]at this;exact this
theorem Aw(a:Bs)(v:D):∀m:List (Bs×D),(dG a v m).map (·.1)=if (m.map (·.1)).contains a=true then m.map (·.1)else m.map (·.1)++[a]
 |[]=>by simp[dG]
 |(b,x)::t=>by
  show(if a=b then _ else _::dG a v t).map (·.1)=_
  by_cases h:a=b
  . subst h;simp
  . rw[if_neg h];simp only[List.map_cons,List.contains_cons];rw[Aw a v t];have:(a==b)=false:=by simpa using h
    rw[this,dK];split <;> simp
theorem Oj(l:List ai):(apx l).map (·.1)=eu l:=by
 have key:∀(l:List ai) (m:List (Bs×D)),(l.foldl (λm p=>dG p.zone.apex (.bool true) m) m).map (·.1)=l.foldl (λout p=>if out.contains p.zone.apex=true then out else out++[p.zone.apex]) (m.map (·.1)):=λl=>by
  induction l with
  |nil=>intro m;rfl
  |cons p t ih=>intro m;simp only[List.foldl_cons];rw[ih,Aw]
 exact key l []
theorem sk(l:List ai):(apx l).length=(eu l).length:=by rw[<- Oj,ak]
def iw(w:ay):Bool:=(w.zones.take 21).all (λp=>iv p.zone&&decide (p.zone.apex.length<=100))&&(w.hosts.take 71).all (λh=>decide (h.name.length<=100))&&decide ((w.zones.length:Int)<=20)&&decide ((w.hosts.length:Int)<=70)&&decide ((w.hints.length:Int)<=20)&&decide ((w.anchor.data.length:Int)<=20)
theorem yk{w:ay}(h:iw w=true):cw w/\w.hosts.length<=70/\w.zones.length<=20/\w.hints.length<=20:=by
 unfold iw at h;simp only[aB,decide_eq_true_eq,ax]at h;obtain⟨⟨⟨⟨⟨h1,h2⟩,h3⟩,h4⟩,h5⟩,h6⟩:=h;have:w.zones.take 21=w.zones:=List.take_of_length_le (by omega);rw[this]at h1;exact⟨⟨by omega,by omega,by omega,λp hp=>(h1 p hp).1⟩,by omega,by omega,by omega⟩
end NP
namespace Go.Proofs.YtjapjahfllomkaaGreatDoor
open NQ Go NP Go.RowKit
theorem Mu(l:List dD)(hl:l.length<=100000):NQ.Fn cx 113 [.slice 3 (l.map dw)] (.d (.bool (kE l))) []:=by
 refine aA aO mixed Tryz.func113 (by kernel_rfl) rfl (ah rfl) ?_;conv=>whnf
 rw[ak];refine ae (λh=>?_) (λh=>?_) <;> (rw[h];conv=>whnf)
 . refine af rfl ?_;show AV.d (D.bool _)=AV.d (D.bool _)
   congr 2
   unfold kE;simp at h;simp;omega
 have hle:kE l=iA [] l:=by unfold kE;simp at h;simp;omega
 rw[hle];refine⟨Nat,λk=>⟨[(0,.d (.slice 3 (l.map dw))),(3,.d (.int .i64 k))],[]⟩,λk=>k<=l.length/\iA ((l.take k).map (·.addr)) (l.drop k)=iA [] l,λk=>l.length-k,
  ⟨0,⟨Nat.zero_le _,rfl⟩,aj.keep ⟨ab,ab,trivial⟩ trivial⟩,λk ⟨hk,hinv⟩=>?_⟩
 conv=>whnf
 refine ae (λh1=>?_) (λh1=>?_) <;> (rw[h1];conv=>whnf)
 . have hlt:k<l.length:=by simpa using h1
   obtain⟨x,hx⟩:∃x,l[k]? =some x:=⟨_,ag hlt⟩
   rw[zM hx]at hinv;refine⟨av k,dw x,aC hx,?_⟩
   conv=>whnf
   (refine⟨_,_,qB x.name,?_⟩;conv=>whnf)
   cases hv:au x.name with
   |false =>
    conv=>whnf
    refine af rfl ?_;rw[<- hinv,hv];rfl
   |true =>
    conv=>whnf
    (refine⟨_,_,DC x.name hv,?_⟩;conv=>whnf)
    rw[hv,QF hv]at hinv
    repeat' (first|(refine ae (λh=>?_) (λh=>?_) <;> (rw[h];conv=>whnf))|fail)
    all_goals first
     |(refine af rfl ?_;show AV.d (D.bool false)=AV.d (D.bool _);rw[<- hinv];clear hinv hle;unfold fM;simp_all;done)
     |skip
    all_goals first
     |(refine af rfl ?_;show AV.d (D.bool false)=AV.d (D.bool _);rw[<- hinv];clear hinv hle;unfold fM;simp_all;omega)
     |skip
    refine⟨Nat,λj=>⟨[(0,.d (.slice 3 (l.map dw))),(3,.d (.int .i64 k)),(4,.ptr 4 0),(6,.d (.int .i64 j))],[(4,.box ((dw x).map .d))]⟩,λj=>j<=k/\((l.take j).map (·.addr)).contains x.addr=false,λj=>k-j,
     ⟨0,⟨Nat.zero_le _,rfl⟩,aj.keep ⟨ab,ab,ab,ab,trivial⟩ ⟨ab,trivial⟩⟩,λj ⟨hj,hno⟩=>?_⟩
    conv=>whnf
    refine ae (λh2=>?_) (λh2=>?_) <;> (rw[h2];conv=>whnf)
    . have hjk:j<k:=by simpa using h2
      obtain⟨y,hy⟩:∃y,l[j]? =some y:=⟨_,ag (by omega)⟩
      try (refine⟨(by kernel_rfl:bf _ _=true),?_⟩;conv=>whnf)
      refine⟨av j,dw y,aC hy,?_⟩
      conv=>whnf
      refine ae (λh3=>?_) (λh3=>?_) <;> (rw[h3];conv=>whnf)
      . refine af rfl ?_;show AV.d (D.bool false)=AV.d (D.bool _)
        have:((l.take k).map (·.addr)).contains x.addr=true:=by
         rw[df,List.mem_map];exact⟨y,aq (i:=j) (by rw[List.getElem?_take,if_pos hjk];exact hy),by simpa using h3⟩
        rw[<- hinv,this];simp
      . refine⟨j+1,⟨hjk,?_⟩,by(show k-(j+1)<k-j;omega),aj.keep ⟨ab,ab,ab,⟨ao (by omega),rfl⟩,trivial⟩ ⟨ab,trivial⟩⟩;rw[bg hy,List.map_append];have h3' :(x.addr==y.addr)=false:=by
         rw[<- Bool.not_eq_true]at h3 ⊢;intro e;apply h3;simp at e ⊢;exact e.symm
        simp only[List.map_cons,List.map_nil];rw[Bool.eq_false_iff]at hno h3' ⊢;simp only[ne_eq,df,List.mem_append,List.mem_singleton,beq_iff_eq]at hno h3' ⊢;rintro(e|e)
        . exact hno e
        . exact h3' e
    . obtain rfl:j=k:=by simp at h2;omega
      refine⟨j+1,⟨hlt,?_⟩,by(show l.length-(j+1)<l.length-j;omega),aj.keep ⟨ab,⟨ao (by omega),rfl⟩,trivial⟩ trivial⟩;rw[bg hx,List.map_append, <- hinv,hno];clear hinv hle;show _=(_&&_&&_)
      unfold fM
      simp_all
      try omega
 . obtain rfl:k=l.length:=by simp at h1;omega
   refine af rfl ?_;rw[<- hinv,List.drop_length];rfl
theorem ED(l:List dD)(a:Int)(hl:l.length<=100000):NQ.Fn cx 23 [.slice 3 (l.map dw),.int .i64 a] (.d (.int .i64 (cN l a))) []:=by
 refine aA aO mixed Tryz.func23 (by kernel_rfl) rfl (ah rfl) ?_;conv=>whnf
 refine⟨Nat,λk=>⟨[(0,.d (.slice 3 (l.map dw))),(1,.d (.int .i64 a)),(5,.d (.int .i64 k))],[]⟩,λk=>k<=l.length/\ ∀j y,j<k->l[j]? =some y->(y.addr==a)=false,λk=>l.length-k,
  ⟨0,⟨Nat.zero_le _,λj y h=>by omega⟩,aj.keep ⟨ab,ab,ab,trivial⟩ trivial⟩,λk ⟨hk,hall⟩=>?_⟩
 conv=>whnf
 refine ae (λh1=>?_) (λh1=>?_) <;> (rw[h1];conv=>whnf)
 . have hlt:k<l.length:=by simpa using h1
   obtain⟨x,hx⟩:∃x,l[k]? =some x:=⟨_,ag hlt⟩
   refine⟨av k,dw x,aC hx,?_⟩
   conv=>whnf
   refine ae (λh2=>?_) (λh2=>?_) <;> (rw[h2];conv=>whnf)
   . refine af rfl ?_;have:l.findIdx? (λh=>h.addr==a)=some k:=by
      rw[List.findIdx?_eq_some_iff_getElem];obtain⟨g1,g2⟩:=ar.1 hx;refine⟨g1,by rw[g2];exact h2,λj hj=>?_⟩;have:=hall j (l[j]) hj (ag (by omega));rw[this];decide
     unfold cN;rw[this];rfl
   . refine⟨k+1,⟨hlt,λj y hj hy=>?_⟩,by(show l.length-(k+1)<l.length-k;omega),aj.keep ⟨ab,ab,⟨ao (by omega),rfl⟩,trivial⟩ trivial⟩;rcases Nat.lt_succ_iff_lt_or_eq.1 hj with hj|rfl
     . exact hall j y hj hy
     . rw[hx]at hy;cases hy;exact h2
 . obtain rfl:k=l.length:=by simp at h1;omega
   refine af rfl ?_;have:l.findIdx? (λh=>h.addr==a)=none:=by
    rw[List.findIdx?_eq_none_iff];intro x hx;obtain⟨i,hi⟩:=cm hx;exact hall i x (ar.1 hi).1 hi
   unfold cN;rw[this];rfl
theorem Nc(s:gG)(hints:List Int)(hl:hints.length<=100000):NQ.Fn cx 114 [.agg (mV s),.slice 1 (hints.map bd)] (.d (.bool (nV s hints))) []:=by
 refine aA aO mixed Tryz.func114 (by kernel_rfl) rfl (ah rfl) ?_;conv=>whnf
 refine⟨Nat,λk=>⟨[(1,.d (.slice 1 (hints.map bd))),(2,.ptr 2 0),(5,.d (.int .i64 k))],[(2,.box ((mV s).map .d))]⟩,λk=>k<=hints.length/\(hints.take k).all fM=true,λk=>hints.length-k,
  ⟨0,⟨Nat.zero_le _,rfl⟩,aj.keep ⟨ab,ab,ab,trivial⟩ ⟨ab,trivial⟩⟩,λk ⟨hk,hall⟩=>?_⟩
 conv=>whnf
 refine ae (λh1=>?_) (λh1=>?_) <;> (rw[h1];conv=>whnf)
 . have hlt:k<hints.length:=by simpa using h1
   obtain⟨x,hx⟩:∃x,hints[k]? =some x:=⟨_,ag hlt⟩
   refine⟨av k,bd x,aC hx,?_⟩
   conv=>whnf
   have no:fM x=false->nV s hints=false:=λhb=>by
    have:hints.all fM=false:=by
     rw[<- Bool.not_eq_true,ax];intro hh;rw[hh x (aq hx)]at hb;cases hb
    unfold nV;rw[this];simp
   refine ae (λh2=>?_) (λh2=>?_) <;> (rw[h2];conv=>whnf)
   . refine af rfl ?_;rw[no (by unfold fM;simp at h2 ⊢;omega)];rfl
   . refine⟨av k,bd x,aC hx,?_⟩
     conv=>whnf
     refine ae (λh3=>?_) (λh3=>?_) <;> (rw[h3];conv=>whnf)
     . refine af rfl ?_;rw[no (by unfold fM;simp at h2 h3 ⊢;omega)];rfl
     . refine⟨k+1,⟨hlt,?_⟩,by(show hints.length-(k+1)<hints.length-k;omega),aj.keep ⟨ab,ab,⟨ao (by omega),rfl⟩,trivial⟩ ⟨ab,trivial⟩⟩;rw[bg hx,List.all_append,hall];simp at h2 h3;simp[fM];omega
 . obtain rfl:k=hints.length:=by simp at h1;omega
   rw[List.take_length]at hall
   (refine⟨_,_,FI s,?_⟩;conv=>whnf)
   repeat' (first|(refine ae (λh=>?_) (λh=>?_) <;> (rw[h];conv=>whnf))|fail)
   all_goals (refine af rfl ?_;show AV.d (D.bool _)=AV.d (D.bool _);congr 2;(try simp only[ak]at *);unfold nV;rw[hall];simp only[*, if_true,if_false,aD])
theorem Jf(l:List ai)(hl:l.length<=100000):NQ.Fn cx 116 [.slice 3 (l.map aN)] (.d (.slice 1 ((eu l).map aP))) []:=by
 refine aA aO mixed Tryz.func116 (by kernel_rfl) rfl (ah rfl) ?_;conv=>whnf
 refine⟨Nat,λk=>⟨[(0,.d (.slice 3 (l.map aN))),(3,.own 100),(4,.d (.int .i64 k))],[(100,.row 9 1 ((eu (l.take k)).map aP))]⟩,λk=>k<=l.length,λk=>l.length-k,
  ⟨0,Nat.zero_le _,(aj.nF 3 100 1 9 1 rfl rfl (by decide)).trans (aj.keep ⟨ab,ab,ab,trivial⟩ ⟨ab,trivial⟩)⟩,λk hk=>?_⟩
 conv=>whnf
 refine ae (λh1=>?_) (λh1=>?_) <;> (rw[h1];conv=>whnf)
 . have hlt:k<l.length:=by simpa using h1
   obtain⟨x,hx⟩:∃x,l[k]? =some x:=⟨_,ag hlt⟩
   have hal:(eu (l.take k)).length<=k:=by have:=Je (l.take k);rw[List.length_take]at this;omega
   generalize hA:eu (l.take k)=A at *
   refine⟨Nat×Bool,λj=>⟨[(0,.d (.slice 3 (l.map aN))),(3,.own 100),(4,.d (.int .i64 k)),(5,.d (.bool j.2)),(6,.d (.int .i64 j.1))],[(100,.row 9 1 (A.map aP))]⟩,λj=>j.1<=A.length/\j.2=(A.take j.1).contains x.zone.apex,λj=>A.length-j.1,
    ⟨(0,false),⟨Nat.zero_le _,rfl⟩,aj.keep ⟨ab,ab,ab,ab,ab,trivial⟩ ⟨⟨by rw[<- hA];rfl,rfl⟩,trivial⟩⟩,λ⟨j,f⟩ ⟨hj,hf⟩=>?_⟩
   dsimp only at hj hf ⊢
   conv=>whnf
   refine ae (λh2=>?_) (λh2=>?_) <;> (rw[h2];conv=>whnf)
   . have hjl:j<A.length:=by simpa using h2
     obtain⟨y,hy⟩:∃y,A[j]? =some y:=⟨_,ag hjl⟩
     (refine⟨(by kernel_rfl:bf _ _=true),?_⟩;conv=>whnf)
     refine ae (λh3=>?_) (λh3=>?_) <;> (rw[h3];conv=>whnf)
     . refine⟨(j+1,true),⟨hjl,?_⟩,by(show A.length-(j+1)<A.length-j;omega),aj.keep ⟨ab,ab,ab,ab,⟨ao (by omega),rfl⟩,trivial⟩ ⟨ab,trivial⟩⟩;dsimp only;rw[bg hy,List.contains_append, <- hf,h3];rfl
     . refine⟨av j,by(show j<(A.map aP).length;rw[ak];exact hjl),?_⟩
       conv=>whnf
       refine⟨aP y,aC hy,?_⟩
       conv=>whnf
       refine⟨av k,aN x,aC hx,?_⟩
       conv=>whnf
       refine⟨(j+1,y==x.zone.apex),⟨hjl,?_⟩,by(show A.length-(j+1)<A.length-j;omega),aj.keep ⟨ab,ab,ab,ab,⟨ao (by omega),rfl⟩,trivial⟩ ⟨ab,trivial⟩⟩;dsimp only;rw[bg hy,List.contains_append, <- hf,h3,dK];simp only[List.contains_cons,List.contains_nil,jl];exact Bool.eq_iff_iff.2 ⟨λh=>by simp at h ⊢;exact h.symm,λh=>by simp at h ⊢;exact h.symm⟩
   . obtain rfl:j=A.length:=by simp at h2;omega
     rw[List.take_length]at hf;refine ae (λh3=>?_) (λh3=>?_) <;> (rw[h3];conv=>whnf)
     . have hc:A.contains x.zone.apex=false:=by rw[<- hf];simpa using h3
       refine⟨av k,aN x,aC hx,?_⟩
       conv=>whnf
       refine⟨by(show(A.map aP).length+1<=_);simp;omega,by(show((A.map aP).length+1)*16<=_);simp;omega,?_⟩
       conv=>whnf
       refine⟨k+1,hlt,by(show l.length-(k+1)<l.length-k;omega),aj.keep ⟨ab,ab,⟨ao (by omega),rfl⟩,trivial⟩ ⟨⟨?_,rfl⟩,trivial⟩⟩;rw[bg hx,rz,hA,if_neg (by rw[hc];simp),List.map_append];rfl
     . have hc:A.contains x.zone.apex=true:=by rw[<- hf];simpa using h3
       refine⟨k+1,hlt,by(show l.length-(k+1)<l.length-k;omega),aj.keep ⟨ab,ab,⟨ao (by omega),rfl⟩,trivial⟩ ⟨⟨?_,rfl⟩,trivial⟩⟩;rw[bg hx,rz,hA,if_pos hc];rfl
 . obtain rfl:k=l.length:=by simp at h1;omega
   refine af rfl ?_;rw[List.take_length];rfl
set_option maxHeartbeats 2000000 in
theorem NJ(w:ay)(h1:w.hosts.length<=100000)(h2:w.zones.length<=100000)(h3:w.hints.length<=100000)(h4:∀p∈w.zones,p.zone.sets.length<=100000):NQ.Fn cx 59 [.agg (ba w)] (.d (.bool (aK w))) []:=by
 refine aA aO mixed Tryz.func59 (by kernel_rfl) rfl (ah rfl) ?_;conv=>whnf
 (refine⟨_,_,Mu w.hosts h1,?_⟩;conv=>whnf)
 cases e1:kE w.hosts with
 |false =>
  conv=>whnf
  refine af rfl ?_;have:aK w=false:=by unfold aK;rw[e1];rfl
  rw[this];rfl
 |true =>
 conv=>whnf
 refine ae (λg0=>?_) (λg0=>?_) <;> (rw[g0];conv=>whnf)
 . refine af rfl ?_;have:aK w=false:=by
    have e3:decide ((w.zones.length:Int)<=4000)=false:=by
     have:=of_decide_eq_true g0;rw[ak]at this;exact decide_eq_false (by omega)
    unfold aK iX;rw[e3];simp
   rw[this];rfl
 (refine⟨_,_,Nc w.anchor w.hints h3,?_⟩;conv=>whnf)
 cases e2:nV w.anchor w.hints with
 |false =>
  conv=>whnf
  refine af rfl ?_;have:aK w=false:=by unfold aK;rw[e2];simp
  rw[this];rfl
 |true =>
 conv=>whnf
 have hyes:aK w=(dx w.hosts.length [] w.zones&&decide (((apx w.zones).length:Int)<=500)):=by
  have e3:(w.zones.length:Int)<=4000:=by
   have:=of_decide_eq_false g0;rw[ak]at this;omega
  unfold aK iX;rw[e1,e2,decide_eq_true e3];simp
 refine⟨Nat,λk=>⟨[(1,.ptr 1 0),(3,.d (.int .i64 k))],[(1,.box ((ba w).map .d))]⟩,λk=>k<=w.zones.length/\dx w.hosts.length (w.zones.take k) (w.zones.drop k)=dx w.hosts.length [] w.zones,λk=>w.zones.length-k,
  ⟨0,⟨Nat.zero_le _,rfl⟩,aj.keep ⟨ab,ab,trivial⟩ ⟨ab,trivial⟩⟩,λk ⟨hk,hinv⟩=>?_⟩
 conv=>whnf
 refine ae (λg1=>?_) (λg1=>?_) <;> (rw[g1];conv=>whnf)
 . have hlt:k<w.zones.length:=by simpa using g1
   obtain⟨x,hx⟩:∃x,w.zones[k]? =some x:=⟨_,ag hlt⟩
   rw[xf hx]at hinv;refine⟨av k,aN x,aC hx,?_⟩
   conv=>whnf
   (refine⟨_,_,Nf x.zone (h4 x (aq hx)),?_⟩;conv=>whnf)
   have bad:(decide (x.host<0)||decide (x.host>=(w.hosts.length:Int))||(w.zones.take k).any (cr x)|| !aY x.zone)=true->aK w=false:=λhb=>by
    rw[hyes, <- hinv,hb];rfl
   refine ae (λg2=>?_) (λg2=>?_) <;> (rw[g2];conv=>whnf)
   . refine af rfl ?_;rw[bad (by simp_all)];rfl
   refine ae (λg3=>?_) (λg3=>?_) <;> (rw[g3];conv=>whnf)
   . refine af rfl ?_;rw[bad (by simp_all)];rfl
   refine ae (λg4=>?_) (λg4=>?_) <;> (rw[g4];conv=>whnf)
   . refine af rfl ?_;rw[bad (by(try simp only[ak]at *);simp_all)];rfl
   refine⟨Nat,λj=>⟨[(1,.ptr 1 0),(3,.d (.int .i64 k)),(4,.ptr 4 0),(6,.d (.int .i64 j))],[(1,.box ((ba w).map .d)),(4,.box ((aN x).map .d))]⟩,λj=>j<=k/\(w.zones.take j).any (cr x)=false,λj=>k-j,
    ⟨0,⟨Nat.zero_le _,rfl⟩,aj.keep ⟨ab,ab,ab,ab,trivial⟩ ⟨ab,ab,trivial⟩⟩,λj ⟨hj,hno⟩=>?_⟩
   conv=>whnf
   refine ae (λg5=>?_) (λg5=>?_) <;> (rw[g5];conv=>whnf)
   . have hjk:j<k:=by simpa using g5
     obtain⟨y,hy⟩:∃y,w.zones[j]? =some y:=⟨_,ag (by omega)⟩
     (refine⟨(by kernel_rfl:bf _ _=true),?_⟩;conv=>whnf)
     refine⟨av j,aN y,aC hy,?_⟩
     conv=>whnf
     have next:cr x y=false->j+1<=k/\(w.zones.take (j+1)).any (cr x)=false:=λhs=>⟨hjk,by rw[bg hy,List.any_append,hno];simp[hs]⟩
     refine ae (λg6=>?_) (λg6=>?_) <;> (rw[g6];conv=>whnf)
     . refine⟨av j,aN y,aC hy,?_⟩
       conv=>whnf
       refine ae (λg7=>?_) (λg7=>?_) <;> (rw[g7];conv=>whnf)
       . refine af rfl ?_;have:(w.zones.take k).any (cr x)=true:=by
          rw[List.any_eq_true];refine⟨y,aq (i:=j) (by rw[List.getElem?_take,if_pos hjk];exact hy),?_⟩;simp at g6 g7;simp[cr,g6,g7]
         rw[bad (by rw[this];simp)];rfl
       . exact⟨j+1,next (by unfold cr;simp at g7;rw[Bool.and_eq_false_iff];right;simp;exact λe=>g7 e.symm),by(show k-(j+1)<k-j;omega),aj.keep ⟨ab,ab,ab,⟨ao (by omega),rfl⟩,trivial⟩ ⟨ab,ab,trivial⟩⟩
     . exact⟨j+1,next (by unfold cr;simp at g6;rw[Bool.and_eq_false_iff];left;simp;exact λe=>g6 e.symm),by(show k-(j+1)<k-j;omega),aj.keep ⟨ab,ab,ab,⟨ao (by omega),rfl⟩,trivial⟩ ⟨ab,ab,trivial⟩⟩
   . obtain rfl:j=k:=by simp at g5;omega
     refine⟨j+1,⟨hlt,?_⟩,by(show w.zones.length-(j+1)<w.zones.length-j;omega),aj.keep ⟨ab,⟨ao (by omega),rfl⟩,trivial⟩ ⟨ab,trivial⟩⟩;rw[bg hx, <- hinv];clear hinv hyes bad;have e1:decide (x.host<0)=false:=g3;have e2:decide (x.host>=(w.hosts.length:Int))=false:=by(try simp only[ak]at g4);exact g4
     have e3:(!aY x.zone)=false:=g2;rw[e1,e2,e3,hno];simp
 . obtain rfl:k=w.zones.length:=by simp at g1;omega
   (refine⟨_,_,Jf w.zones h2,?_⟩;conv=>whnf)
   refine af rfl ?_;show AV.d (D.bool _)=AV.d (D.bool _)
   congr 2
   rw[List.drop_length]at hinv;rw[hyes, <- hinv,sk];simp[dx]
def JM:Nat->List Nat:=fun|7=>[55555]|12=>[55555]|_=>[]
theorem BV(w:ay)(hz:(w.zones.take 21).all (λp=>iv p.zone&&decide (p.zone.apex.length<=100))=true)(hh:(w.hosts.take 71).all (λh=>decide (h.name.length<=100))=true)(st:St)(hs:aj cx st ⟨[(1,.ptr 1 0)],[(1,.box ((ba w).map .d))]⟩) :
 vc cx Tryz.f12.ntmps JM (KY 3 ((Tryz.f12.body).getD .skip)) (fnQ cx Tryz.f12.results.toList (.d (.bool (iw w))) []) st:=by
 conv=>whnf
 refine⟨_,hs,?_⟩
 conv=>whnf
 have e:iw w=(decide ((w.zones.length:Int)<=20)&&decide ((w.hosts.length:Int)<=70)&&decide ((w.hints.length:Int)<=20)&&decide ((w.anchor.data.length:Int)<=20)):=by
  unfold iw;rw[hz,hh];rfl
 repeat' (first|(refine ae (λh=>?_) (λh=>?_) <;> (rw[h];conv=>whnf))|fail)
 all_goals (refine af rfl ?_;show AV.d (D.bool _)=AV.d (D.bool _);congr 2;(try simp only[ak]at *);rw[e];simp only[*, if_true,if_false,aD])
theorem El(w:ay)(hz:(w.zones.take 21).all (λp=>iv p.zone&&decide (p.zone.apex.length<=100))=true)(st:St)(hs:aj cx st ⟨[(1,.ptr 1 0)],[(1,.box ((ba w).map .d))]⟩) :
 vc cx Tryz.f12.ntmps JM (KY 2 ((Tryz.f12.body).getD .skip)) (fnQ cx Tryz.f12.results.toList (.d (.bool (iw w))) []) st:=by
 conv=>whnf
 refine⟨_,hs,?_⟩
 conv=>whnf
 refine⟨Nat,λk=>⟨[(1,.ptr 1 0),(5,.d (.int .i64 k))],[(1,.box ((ba w).map .d))]⟩,λk=>k<=w.hosts.length/\k<=71/\(w.hosts.take k).all (λh=>decide (h.name.length<=100))=true,λk=>w.hosts.length-k,
  ⟨0,⟨Nat.zero_le _,Nat.zero_le _,rfl⟩,aj.keep ⟨ab,ab,trivial⟩ ⟨ab,trivial⟩⟩,λk ⟨hk,hk2,hall⟩=>?_⟩
 conv=>whnf
 refine ae (λg1=>?_) (λg1=>?_) <;> (rw[g1];conv=>whnf)
 . have hlt:k<w.hosts.length:=by simpa using g1
   obtain⟨x,hx⟩:∃x,w.hosts[k]? =some x:=⟨_,ag hlt⟩
   refine ae (λg2=>?_) (λg2=>?_) <;> (rw[g2];conv=>whnf)
   . have hk3:k<71:=by simp at g2;omega
     refine⟨av k,dw x,aC hx,?_⟩
     conv=>whnf
     refine ae (λg4=>?_) (λg4=>?_) <;> (rw[g4];conv=>whnf)
     . refine af rfl ?_;have:(w.hosts.take 71).all (λh=>decide (h.name.length<=100))=false:=by
        rw[<- Bool.not_eq_true,ax];intro h;have:=h x (aq (i:=k) (by rw[List.getElem?_take,if_pos hk3];exact hx));simp at g4 this;omega
       have:iw w=false:=by unfold iw;rw[this];simp
       rw[this];rfl
     . refine⟨k+1,⟨hlt,by omega,?_⟩,by(show w.hosts.length-(k+1)<w.hosts.length-k;omega),aj.keep ⟨ab,⟨ao (by omega),rfl⟩,trivial⟩ ⟨ab,trivial⟩⟩;rw[bg hx,List.all_append,hall];simp at g4;simp;omega
   . have:k=71:=by simp at g2;omega
     subst this;exact BV w hz hall _ (aj.keep ⟨ab,trivial⟩ ⟨ab,trivial⟩)
 . obtain rfl:k=w.hosts.length:=by simp at g1;omega
   exact BV w hz (by rw[List.take_length]at hall;rw[List.take_of_length_le hk2];exact hall) _ (aj.keep ⟨ab,trivial⟩ ⟨ab,trivial⟩)
theorem RB(w:ay):NQ.Fn cx 12 [.agg (ba w)] (.d (.bool (iw w))) []:=by
 refine cH JM aO mixed Tryz.func12 (by kernel_rfl) rfl (ah rfl) ?_
 conv=>whnf
 refine⟨Nat,λk=>⟨[(1,.ptr 1 0),(3,.d (.int .i64 k))],[(1,.box ((ba w).map .d))]⟩,λk=>k<=w.zones.length/\k<=21/\(w.zones.take k).all (λp=>iv p.zone&&decide (p.zone.apex.length<=100))=true,λk=>w.zones.length-k,
  ⟨0,⟨Nat.zero_le _,Nat.zero_le _,rfl⟩,aj.keep ⟨ab,ab,trivial⟩ ⟨ab,trivial⟩⟩,λk ⟨hk,hk2,hall⟩=>?_⟩
 conv=>whnf
 have no:∀p,w.zones[k]? =some p->k<21->(iv p.zone&&decide (p.zone.apex.length<=100))=false->iw w=false:=λp hp hk hb=>by
  have:(w.zones.take 21).all (λp=>iv p.zone&&decide (p.zone.apex.length<=100))=false:=by
   rw[<- Bool.not_eq_true,ax];intro h;rw[h p (aq (i:=k) (by rw[List.getElem?_take,if_pos hk];exact hp))]at hb;cases hb
  unfold iw;rw[this];simp
 refine ae (λg1=>?_) (λg1=>?_) <;> (rw[g1];conv=>whnf)
 . have hlt:k<w.zones.length:=by simpa using g1
   obtain⟨x,hx⟩:∃x,w.zones[k]? =some x:=⟨_,ag hlt⟩
   refine ae (λg2=>?_) (λg2=>?_) <;> (rw[g2];conv=>whnf)
   . have hk3:k<21:=by simp at g2;omega
     refine⟨av k,aN x,aC hx,?_⟩
     conv=>whnf
     (refine⟨_,_,Tk x.zone,?_⟩;conv=>whnf)
     refine ae (λg3=>?_) (λg3=>?_) <;> (rw[g3];conv=>whnf)
     . refine af rfl ?_;rw[no x hx hk3 (by simp_all)];rfl
     refine⟨av k,aN x,aC hx,?_⟩
     conv=>whnf
     refine ae (λg4=>?_) (λg4=>?_) <;> (rw[g4];conv=>whnf)
     . refine af rfl ?_;rw[no x hx hk3 (by simp at g4;simp;omega)];rfl
     . refine⟨k+1,⟨hlt,by omega,?_⟩,by(show w.zones.length-(k+1)<w.zones.length-k;omega),aj.keep ⟨ab,⟨ao (by omega),rfl⟩,trivial⟩ ⟨ab,trivial⟩⟩;rw[bg hx,List.all_append,hall];simp at g3 g4;simp[g3];omega
   . have:k=21:=by simp at g2;omega
     subst this;exact El w hall _ (aj.keep ⟨ab,trivial⟩ ⟨ab,trivial⟩)
 . obtain rfl:k=w.zones.length:=by simp at g1;omega
   exact El w (by rw[List.take_length]at hall;rw[List.take_of_length_le hk2];exact hall) _ (aj.keep ⟨ab,trivial⟩ ⟨ab,trivial⟩)
end Go.Proofs.YtjapjahfllomkaaGreatDoor
namespace NP
open NQ Go
theorem KL{zs:List ai}{K:Int}{q:aV}{x:Nat×ai}(hK:0<=K)(h:qq zs K q=some x):zs[x.1]? =some x.2/\x.2∈zs/\x.2.host=K/\aH q.name x.2.zone.apex=true:=by
 have key:∀nt,fq zs K q.name nt=some x->zs[x.1]? =some x.2/\x.2∈zs/\x.2.host=K/\aH q.name x.2.zone.apex=true:=λnt hd=>by
  obtain⟨h1,h2,_⟩:=tn hd;obtain⟨k1,_,k3⟩:=(gJ hK).1 h2;exact⟨Ef _ _ _ _ x hd,h1,k1,k3⟩
 unfold qq at h;split at h
 . rename_i y hy;cases h;split at hy
   . exact key _ hy
   . cases hy
 . exact key _ h
theorem Oi{z:aF}{q:aV}(u:Use z q):(cu z q).2=0:=by rw[u.ans]
theorem LD{w:ay}{q:aV}(hval:aK w=true)(hF:cw w)(hq:bK q=true){K:Int}(hK:0<=K) :
 (match ph q (dm jW (cO w.zones K q))with|none=>((⟨7,[],[]⟩:Ans),(0:Int))|some z=>cu z q)=(vR w.zones K q,0):=by
 have hg:=bE hval;have hA:Di w.zones:=⟨λp hp=>(bC (hg p hp).1).apex,sf hval⟩
 rw[Ky hA hK (Kz hq)];unfold vR;cases h:qq w.zones K q with
 |none=>rfl
 |some x =>
  obtain⟨h1,h2,h3,h4⟩:=KL hK h;have u:Use x.2.zone q:=⟨hF.few _ h2,(hg _ h2).1,hq,h4⟩
  exact Prod.ext rfl (Oi u)
end NP
namespace Go.Proofs.YtjapjahfllomkaaGreatDoor
open NQ Go NP Go.RowKit
end Go.Proofs.YtjapjahfllomkaaGreatDoor
namespace NP
open NQ Go
theorem GV{p q:ai}(hp:aY p.zone=true)(hq:aY q.zone=true):dO p q=(decide (gz p.zone>gz q.zone)||(decide (gz p.zone=gz q.zone)&&decide (p.host<q.host))):=by
 unfold dO dY;rw[hp,hq];rfl
theorem vZ(zs : List ai)(q : aV)(f : Nat)(a : Bs) : jf zs (gi zs) q (f + 1) a = match aR zs a with
  |none=>(iV,false)
  |some x=>if ((cu x.2.zone q).1.kind != 4)=true then((cu x.2.zone q).1,true)else jf zs (gi zs) q f (cu x.2.zone q).1.cut:=by
 rw[jf,Nz];cases h:aR zs a with
 |none=>rfl
 |some x =>
  simp only[Option.map_some];rw[tg zs a x h]
end NP
namespace Go.Proofs.YtjapjahfllomkaaGreatDoor
open NQ Go NP Go.RowKit
theorem yd(zs:List ai)(a:Bs)(hz:∀p∈zs,aY p.zone=true)(hl:zs.length<=100000):NQ.Fn cx 21 [.slice 3 (zs.map aN),.str a] (.d (.int .i64 (Fu (aR zs a)))) []:=by
 refine aA aO mixed Tryz.func21 (by kernel_rfl) rfl (ah rfl) ?_;conv=>whnf
 refine⟨Nat×Option (Nat×ai),λx=>⟨[(0,.d (.slice 3 (zs.map aN))),(1,.d (.str a)),(5,.d (.int .i64 (Fu x.2))),(6,.d (.int .i64 x.1))],[]⟩,
  λx=>x.1<=zs.length/\iS zs x.2/\fE (λp=>p.zone.apex==a) dO x.1 (zs.drop x.1) x.2=aR zs a,λx=>zs.length-x.1,
  ⟨(0,none),⟨Nat.zero_le _,(λx hx=>by cases hx),rfl⟩,aj.keep ⟨ab,ab,ab,ab,trivial⟩ trivial⟩,λ⟨k,b⟩ ⟨hk,hb,hinv⟩=>?_⟩
 dsimp only at hk hb hinv ⊢
 conv=>whnf
 refine ae (λh1=>?_) (λh1=>?_) <;> (rw[h1];conv=>whnf)
 . have hlt:k<zs.length:=by simpa using h1
   obtain⟨p,hp⟩:∃p,zs[k]? =some p:=⟨_,ag hlt⟩
   have hpv:=hz p (aq hp);rw[BN hp]at hinv;have next:∀b',b' =bO (λp=>p.zone.apex==a) dO k p b->(k+1<=zs.length/\iS zs b' /\fE (λp=>p.zone.apex==a) dO (k+1) (zs.drop (k+1)) b' =aR zs a):=λb' e=>by
    rw[e];exact⟨hlt,hb.step hp,hinv⟩
   refine⟨av k,aN p,aC hp,?_⟩
   conv=>whnf
   refine ae (λh2=>?_) (λh2=>?_) <;> (rw[h2];conv=>whnf)
   . exact⟨(k+1,b),next _ (by unfold bO;rw[if_neg (by simpa using h2)]),by(show zs.length-(k+1)<zs.length-k;omega),aj.keep ⟨ab,ab,ab,⟨ao (by omega),rfl⟩,trivial⟩ trivial⟩
   have ha:(p.zone.apex==a)=true:=by simpa using h2
   cases b with
   |none =>
    conv=>whnf
    exact⟨(k+1,some (k,p)),next _ (by unfold bO;rw[if_pos ha]),by(show zs.length-(k+1)<zs.length-k;omega),aj.keep ⟨ab,ab,ab,⟨ao (by omega),rfl⟩,trivial⟩ trivial⟩
   |some x =>
    have hx:=hb x rfl;have hxv:=hz x.2 (aq hx);have hnew:=GV hpv hxv
    conv=>whnf
    refine⟨av k,aN p,aC hp,?_⟩
    conv=>whnf
    (refine⟨_,_,xB p.zone hpv,?_⟩;conv=>whnf)
    refine⟨av x.1,aN x.2,aC hx,?_⟩
    conv=>whnf
    (refine⟨_,_,xB x.2.zone hxv,?_⟩;conv=>whnf)
    (refine⟨(by kernel_rfl:bf _ _=true),?_⟩;conv=>whnf)
    repeat' (first
     |(refine ae (λh=>?_) (λh=>?_) <;> (rw[h];conv=>whnf))
     |(refine⟨av k,aN p,aC hp,?_⟩;conv=>whnf)
     |(refine⟨av x.1,aN x.2,aC hx,?_⟩;conv=>whnf)
     |fail)
    all_goals first
     |(refine⟨(k+1,some (k,p)),next _ (by unfold bO;rw[if_pos ha];dsimp only;rw[if_pos (by rw[hnew];simp_all;done)]),by(show zs.length-(k+1)<zs.length-k;omega),aj.keep ⟨ab,ab,ab,⟨ao (by omega),rfl⟩,trivial⟩ trivial⟩;done)
     |(refine⟨(k+1,some x),next _ (by unfold bO;rw[if_pos ha];dsimp only;rw[if_neg (by rw[hnew];simp_all;done)]),by(show zs.length-(k+1)<zs.length-k;omega),aj.keep ⟨ab,ab,ab,⟨ao (by omega),rfl⟩,trivial⟩ trivial⟩;done)
     |(refine⟨(k+1,some x),next _ (by unfold bO;rw[if_pos ha];dsimp only;rw[if_neg (by rw[hnew];simp_all;omega)]),by(show zs.length-(k+1)<zs.length-k;omega),aj.keep ⟨ab,ab,ab,⟨ao (by omega),rfl⟩,trivial⟩ trivial⟩;done)
 . obtain rfl:k=zs.length:=by simp at h1;omega
   refine af rfl ?_;rw[<- hinv,List.drop_length];rfl
def tT(i:Nat):Code->Option (Array Oper)
 | .region id ops _=>(match Nat.beq id i with|true=>some ops|false=>none)
 | .seq a b=>(match tT i a with|some x=>some x|none=>tT i b)
 | .cond _ a b=>(match tT i a with|some x=>some x|none=>tT i b)
 | .block _ b=>tT i b
 | .loop b=>tT i b
 | .rangeFunc _ _ _ b=>none
 |_=>none
def On(q:aV)(l:List aF):St:=⟨[(5,.d (.ptr (cS q))),(6,.ptr 100006 0),(9,.ptr 100009 0)],[(100006,.box [.d (.int .i64 0),.nil 5,.d (.str [])]),(100009,.box [.own 200]),(200,.row 43 2 (l.map aW))]⟩
theorem Oo(q:aV)(l l' :List aF)(ops:Array Oper)(ho:tT 12 ((Tryz.f82.body).getD .skip)=some ops)(Q:St->Prop)(h:FnR yh 153 false 43 2 (l.map aW) false [.fn 154 [] []] (l'.map aW))(hk:∀st,aj yh st (On q l')->Q st) :
 kP yh Tryz.f82.ntmps [55555] ops false Q (On q l):=by
 conv at ho=>lhs;whnf
 cases ho
 conv=>whnf
 exact⟨_,h,hk _ (aj.keep ⟨ab,ab,ab,trivial⟩ ⟨ab,ab,ab,trivial⟩)⟩
set_option maxHeartbeats 1000000 in
theorem SO(w:ay)(a:Int)(q:aV)(hF:cw w):NQ.Fn cx 82 [.agg (ba w),.int .i64 a,.agg (cS q)] (.tuple [.agg ((ia (mF w a q).1).map .d),.d (.int .i64 (mF w a q).2)]) []:=by
 show NQ.Fn yh _ _ _ _
 refine vk (fun|3=>[4]|7=>[5,8]|12=>[55555]|13=>[55555]|_=>[]) UD Sf Tryz.func82 (by kernel_rfl) rfl (ah rfl) ?_
 conv=>whnf
 (refine⟨_,_,wi w (by have:=hF.hosts;omega) (by have:=hF.zones;omega) (by have:=hF.hints;omega),?_⟩;conv=>whnf)
 have bad:(aK w&&bK q)=false->mF w a q=(iV,1):=λh=>by unfold mF;rw[if_pos h]
 repeat' (first|(refine⟨_,_,CK q,?_⟩;conv=>whnf)|(refine ae (λh=>?_) (λh=>?_) <;> (rw[h];conv=>whnf))|fail)
 . refine af rfl ?_;rw[bad (by simp_all)];rfl
 . refine af rfl ?_;rw[bad (by simp_all)];rfl
 have hval:aK w=true:=by simpa using ‹(!aK w)=false›
 have hq:bK q=true:=by simpa using ‹(!bK q)=false›
 have hask:mF w a q=if cN w.hosts a<0 then(iV,4)else match ph q (dm jW (cO w.zones (cN w.hosts a) q))with
  |none=>(⟨7,[],[]⟩,0)
  |some z=>cu z q:=by unfold mF;exact if_neg (by rw[hval,hq];simp)
 (refine⟨_,_,JV w.hosts (λh=>h.addr==a) (.ptr [.int .i64 a]) (by have:=hF.hosts;omega) (λh _=>Rn h a),?_⟩;conv=>whnf)
 refine ae (λh1=>?_) (λh1=>?_) <;> (rw[h1];conv=>whnf)
 . have h1' :cN w.hosts a<0:=of_decide_eq_true h1;refine af rfl ?_;rw[hask,if_pos h1'];rfl
 rw[if_neg (of_decide_eq_false h1:¬cN w.hosts a<0)]at hask
 (refine⟨_,_,LP w _ _,?_⟩;conv=>whnf)
 generalize hK:cN w.hosts a=K at *
 have hzl:(cO w.zones K q).length<=1000:=by
  unfold cO;rw[ak];have:=List.length_filter_le (mw K q) w.zones;have:=hF.zones;omega
 refine⟨171,_,Bl _,[(5,.d (.ptr (cS q))),(6,.ptr 100006 0),(9,.ptr 100009 0),(31,.d (.fn 171 [] [.ptr (ba w),.ptr [.fn 152 [] [.ptr [.int .i64 K],.ptr (cS q)]]]))],
  Unit,(),λ(k:Nat) _=>[(100006,.box [.d (.int .i64 0),.nil 5,.d (.str [])]),(100009,.box [.own 200]),(200,.row 43 2 (((cO w.zones K q).take k).map aW))],[100006,100009],λ_ _=>True,
  (aj.zero (aj.mU 9 0 200 2 [.nil 2] 43 2 (by kernel_rfl) rfl (by kernel_rfl) (by decide))).trans ((gH.ren [6,9] (by kernel_rfl)).trans (aj.zero (aj.keep ⟨⟨(by kernel_rfl),(by kernel_rfl)⟩,⟨(by kernel_rfl),(by kernel_rfl)⟩,⟨(by kernel_rfl),(by kernel_rfl)⟩,⟨(by kernel_rfl),(by kernel_rfl)⟩,trivial⟩ ⟨⟨(by kernel_rfl),(by kernel_rfl)⟩,⟨(by kernel_rfl),(by kernel_rfl)⟩,⟨(by kernel_rfl),(by kernel_rfl)⟩,trivial⟩))),
  ⟨rfl,DW w 152 (.ptr [.int .i64 K]) (.ptr (cS q)) (mw K q) (λp _=>Om K q p) rfl (by have:=hF.zones;omega),?_,rfl,rfl⟩,⟨ah rfl,?_,rfl,by kernel_rfl⟩,trivial,?_,λkf _ hkf _=>?_⟩
 . intro k x k' hx;exact Mo _ _ _ x (aq hx.1)
 . intro r hr;rcases List.mem_cons.1 hr with rfl|hr
   . exact⟨by omega,_,rfl,rfl⟩
   . rcases List.mem_cons.1 hr with rfl|hr
     . exact⟨by omega,_,rfl,rfl⟩
     . cases hr
 . rintro k x k' _ ⟨hx,rfl⟩ _;obtain⟨i,p,rfl,hp⟩:=tB _ _ _ k x hx;have hz:(cO w.zones K q)[k]? =some p.zone:=by unfold cO;rw[aQ,hp];rfl
   have hkl:k<(cO w.zones K q).length:=(ar.1 hz).1
   conv=>whnf
   refine⟨by(show(((cO w.zones K q).take k).map aW).length+1<=_);simp;omega,by(show((((cO w.zones K q).take k).map aW).length+1)*40<=_);simp;omega,?_⟩
   conv=>whnf
   refine⟨(),⟨?_,λr hr=>?_⟩,trivial⟩
   . show aj yh _ ⟨[],[(100006,.box [.d (.int .i64 0),.nil 5,.d (.str [])]),(100009,.box [.own 200]),(200,.row 43 2 (((cO w.zones K q).take (k+1)).map aW))]⟩
     rw[bg hz,List.map_append];exact aj.keep trivial ⟨⟨(by kernel_rfl),(by kernel_rfl)⟩,⟨(by kernel_rfl),(by kernel_rfl)⟩,⟨(by kernel_rfl),(by kernel_rfl)⟩,trivial⟩
   . rcases List.mem_cons.1 hr with rfl|hr
     . exact aG.2 ⟨_,aL ..⟩
     . rcases List.mem_cons.1 hr with rfl|hr
       . exact aG.2 ⟨_,by rw[aU _ _ (by omega),aL]⟩
       . cases hr
 . obtain rfl:kf=_:=hkf;rw[tC];have:(cO w.zones K q).take (w.zones.filter (mw K q)).length=cO w.zones K q:=List.take_of_length_le (by unfold cO;rw[ak];exact Nat.le_refl _);dsimp only;rw[this];have hperm:=gP (wy (cO w.zones K q))
   conv=>whnf
   refine ae (λh2=>?_) (λh2=>?_) <;> (rw[h2];conv=>whnf)
   . have hnil:cO w.zones K q=[]:=by
      apply List.eq_nil_of_length_eq_zero;have h2' :(((cO w.zones K q).map aW).length:Int)=0:=by simpa using h2
      rw[ak]at h2';omega
     refine af rfl ?_;rw[hask,hnil];rfl
   . have hlen:(dm jW (cO w.zones K q)).length=(cO w.zones K q).length:=hperm.length_eq;have hpos:0<(cO w.zones K q).length:=by
      have h2' :¬(((cO w.zones K q).map aW).length:Int)=0:=by simpa using h2
      rw[ak]at h2';omega
     have hmem:∀z∈dm jW (cO w.zones K q),iv z=true:=λz hz=>by
      have hz:=hperm.subset hz;unfold cO at hz;obtain⟨p,hp,rfl⟩:=List.mem_map.1 hz;exact hF.few p (List.mem_filter.1 hp).1
     have hS:=λfl=>Nr (cO w.zones K q) (by omega) fl
     refine⟨On q (cO w.zones K q),aj.keep ⟨⟨(by kernel_rfl),(by kernel_rfl)⟩,⟨(by kernel_rfl),(by kernel_rfl)⟩,⟨(by kernel_rfl),(by kernel_rfl)⟩,trivial⟩ ⟨⟨(by kernel_rfl),(by kernel_rfl)⟩,⟨(by kernel_rfl),(by kernel_rfl)⟩,⟨(by kernel_rfl),(by kernel_rfl)⟩,trivial⟩,?_⟩;generalize dm jW (cO w.zones K q)=L at *
     refine Oo q _ L _ (by kernel_rfl) _ (hS _) λst hst=>?_
     conv=>whnf
     refine⟨_,hst,?_⟩;cases L with
     |nil=>simp at hlen;omega
     |cons z t =>
      have hz:=hmem z (List.mem_cons_self ..)
      conv=>whnf
      refine⟨by decide,by(show 0<((z::t).map aW).length);simp,?_⟩
      conv=>whnf
      have one:((q.type==6)&&(z.apex==q.name))=false->mF w a q=cu z q:=λhb=>by rw[hask];unfold ph;dsimp only;rw[hb];rfl
      refine⟨aW z,rfl,?_⟩
      conv=>whnf
      refine ae (λh6=>?_) (λh6=>?_) <;> (rw[h6];conv=>whnf)
      case refine_2 =>
       (refine⟨_,_,mE z q (by have:=(dv hz).1;omega),?_⟩;conv=>whnf)
       refine af rfl ?_;rw[one (by rw[h6];rfl)];rfl
      refine ae (λha=>?_) (λha=>?_) <;> (rw[ha];conv=>whnf)
      case refine_2 =>
       (refine⟨_,_,mE z q (by have:=(dv hz).1;omega),?_⟩;conv=>whnf)
       refine af rfl ?_;rw[one (by rw[ha];simp)];rfl
      refine ae (λhl=>?_) (λhl=>?_) <;> (rw[hl];conv=>whnf)
      case refine_2 =>
       have ht:t=[]:=by
        cases t with
        |nil=>rfl
        |cons y t=>exfalso;have:=of_decide_eq_false hl;simp at this;omega
       subst ht
       (refine⟨_,_,mE z q (by have:=(dv hz).1;omega),?_⟩;conv=>whnf)
       refine af rfl ?_;have e:mF w a q=cu z q:=by
        rw[hask];unfold ph;dsimp only;have h6' :(q.type==6)=true:=h6;have ha' :(z.apex==q.name)=true:=ha;rw[h6',ha'];rfl
       rw[e];rfl
      cases t with
      |nil=>exfalso;have:=of_decide_eq_true hl;simp at this
      |cons y t =>
       have hy:=hmem y (aM _ (List.mem_cons_self ..));refine⟨by decide,by(show 1<((z::y::t).map aW).length;simp),?_⟩
       conv=>whnf
       refine⟨aW y,rfl,?_⟩
       conv=>whnf
       (refine⟨_,_,mE y q (by have:=(dv hy).1;omega),?_⟩;conv=>whnf)
       refine af rfl ?_;have e:mF w a q=cu y q:=by
        rw[hask];unfold ph;dsimp only;have h6' :(q.type==6)=true:=h6;have ha' :(z.apex==q.name)=true:=ha;rw[h6',ha'];rfl
       rw[e];rfl
end Go.Proofs.YtjapjahfllomkaaGreatDoor
namespace NP
open NQ Go
def eL(w:ay)(l:List ai):ay:=⟨w.hosts,l,w.anchor,w.hints⟩
theorem SN{w:ay}{q:aV}{a:Int}(hval:aK w=true)(hq:bK q=true)(hF:cw w):mF w a q=if cN w.hosts a<0 then(iV,4)else(vR w.zones (cN w.hosts a) q,0):=by
 unfold mF;rw[if_neg (by rw[hval,hq];simp)];split
 . rfl
 . rename_i h;exact LD hval hF hq (by omega)
end NP
namespace Go.Proofs.YtjapjahfllomkaaGreatDoor
open NQ Go NP Go.RowKit
theorem rj(w:ay)(hF:cw w):NQ.Fn cx 43 [.agg (ba w)] (.d (.bool (aK w))) []:=wi w (by have:=hF.hosts;omega) (by have:=hF.zones;omega) (by have:=hF.hints;omega)
theorem Lh(w:ay)(hF:cw w):NQ.Fn cx 59 [.agg (ba w)] (.d (.bool (aK w))) []:=NJ w (by have:=hF.hosts;omega) (by have:=hF.zones;omega) (by have:=hF.hints;omega) (λp hp=>by have:=(dv (hF.few p hp)).1;omega)
end Go.Proofs.YtjapjahfllomkaaGreatDoor
namespace NP
open NQ Go
theorem sd{zs:List ai}(hg:mC zs):∀(f:Nat) (q:aV) (kept:List Signed),bK q=true->(∀s∈kept,∃p∈zs,s∈p.zone.sets) ->
 (∀s∈(gZ zs f q kept).1.sets,∃p∈zs,s∈p.zone.sets)/\(gZ zs f q kept).1.sets.length<=kept.length+f+1000
 |0,q,kept,_,_=>⟨λs hs=>(by cases hs),by simp[gZ,iV]⟩
 |f+1,q,kept,hq,hk=>by
  unfold gZ;cases hok:(dI zs q).2 with
  |false=>exact⟨λs hs=>(by cases hs),by simp[iV]⟩
  |true =>
   rw[if_neg (by simp)];obtain⟨p,hpm,u,hpa,hp4⟩:=vQ hg hq (x:=(dI zs q).1) (by rw[<- hok]);split
   . refine⟨λs hs=>?_,?_⟩
     . rcases List.mem_append.1 hs with hs|hs
       . exact hk s hs
       . rw[hpa]at hs;exact⟨p,hpm,Rh u.few q s hs⟩
     . have:=Hy u.few q;show(kept++(dI zs q).1.sets).length<=_
       rw[List.length_append,hpa];omega
   . rename_i h2;have hk3:(cu p.zone q).1.kind=3:=by rw[<- hpa];simpa using h2
     obtain⟨s,R,d,hs,hsm,hst,hsd,hdv⟩:=u.Lt hk3;rw[<- hpa]at hs;rw[hs];simp only[List.head?_cons,hsd];have:=sd hg f ⟨d.text,q.type⟩ (kept++[s]) (by
      unfold bK at hq ⊢;simp only[aB]at hq ⊢;exact⟨⟨hdv,hq.1.2⟩,hq.2⟩) λx hx=>by
       rcases List.mem_append.1 hx with hx|hx
       . exact hk x hx
       . rw[List.mem_singleton]at hx;subst hx;exact⟨p,hpm,hsm⟩
     refine⟨this.1,?_⟩;have h:=this.2;rw[List.length_append,List.length_singleton]at h;omega
structure SM(a:Ans):Prop where
 len:a.sets.length<=100000
 small:∀s∈a.sets,s.set.data.length<=100000/\s.sigs.length<=100000
theorem nZ{w:ay}(hF:cw w)(q:aV):SM (dA w q).1:=by
 unfold dA;split
 . exact⟨by decide,λs hs=>by cases hs⟩
 . rename_i h;have hv:aK w=true/\bK q=true:=by simpa using h
   have hg:mC w.zones:=λp hp=>⟨hF.few p hp,(bE hv.1 p hp).1⟩
   obtain⟨h1,h2⟩:=sd hg 9 q [] hv.2 (λs hs=>by cases hs);refine⟨by rw[List.length_nil]at h2;omega,λs hs=>?_⟩;obtain⟨p,hp,hm⟩:=h1 s hs;have:=(dv (hF.few p hp)).2 s hm;omega
end NP
namespace Go.Proofs.YtjapjahfllomkaaGreatDoor
open NQ Go NP Go.RowKit
end Go.Proofs.YtjapjahfllomkaaGreatDoor
namespace NP
open NQ Go
theorem CD{w:ay}{q:aV}(hv:aK w=true)(hq:bK q=true):dA w q=gZ w.zones 9 q []:=by unfold dA;rw[if_neg (by rw[hv,hq];simp)]
end NP
namespace Go.Proofs.YtjapjahfllomkaaGreatDoor
open NQ Go NP Go.RowKit
end Go.Proofs.YtjapjahfllomkaaGreatDoor
namespace NP
open NQ Go
theorem kr{n:Nat}:∀(l seen:List ai),dx n seen l=true ↔ ((∀p∈l,((decide (p.host<0)||decide (p.host>=(n:Int))|| !aY p.zone)=false)/\seen.any (cr p)=false)/\l.Pairwise (λx p=>cr p x=false))
 |[],seen=>by simp[dx]
 |x::t,seen=>by
  rw[dx,aB,kr t,List.pairwise_cons];simp only[List.any_append,List.any_cons,List.any_nil,jl,Bool.not_eq_true',List.mem_cons,forall_eq_or_imp];constructor
  . rintro⟨h1,h2,h3⟩;simp only[Bool.or_eq_false_iff]at h1 h2 ⊢;exact⟨⟨⟨⟨h1.1.1,h1.2⟩,h1.1.2⟩,λp hp=>⟨(h2 p hp).1,(h2 p hp).2.1⟩⟩,λp hp=>(h2 p hp).2.2,h3⟩
  . rintro⟨⟨h1,h2⟩,h3,h4⟩;simp only[Bool.or_eq_false_iff]at h1 h2 ⊢;exact⟨⟨⟨h1.1.1,h1.2⟩,h1.1.2⟩,λp hp=>⟨(h2 p hp).1,(h2 p hp).2,h3 p hp⟩,h4⟩
theorem qP{α:Type}[BEq α][LawfulBEq α]:∀{a b:List α},a.Nodup->(∀x∈a,x∈b)->a.length<=b.length
 |[],b,_,_=>Nat.zero_le _
 |x::t,b,hn,hs=>by
  have hx:=hs x (List.mem_cons_self ..);rw[List.nodup_cons]at hn;have:=qP (b:=b.erase x) hn.2 λy hy=>(List.mem_erase_of_ne (λ(e:y=x)=>hn.1 (e ▸ hy))).2 (hs y (aM _ hy))
  rw[List.length_erase_of_mem hx]at this;have h0:0<b.length:=List.length_pos_of_mem hx;rw[List.length_cons];omega
theorem nN(l:List ai):(eu l).Nodup/\ ∀a,a∈eu l ↔ ∃p∈l,p.zone.apex=a:=by
 have key:∀(l:List ai) (out:List Bs),out.Nodup->(l.foldl (λout p=>if out.contains p.zone.apex=true then out else out++[p.zone.apex]) out).Nodup/\ ∀a,a∈l.foldl (λout p=>if out.contains p.zone.apex=true then out else out++[p.zone.apex]) out ↔ (a∈out\/ ∃p∈l,p.zone.apex=a):=λl=>by
  induction l with
  |nil=>intro out h;exact⟨h,λa=>by simp⟩
  |cons p t ih =>
   intro out h;simp only[List.foldl_cons];by_cases hc:out.contains p.zone.apex=true
   . rw[if_pos hc];obtain⟨h1,h2⟩:=ih out h;refine⟨h1,λa=>?_⟩;rw[h2];have hm:p.zone.apex∈out:=df.1 hc;constructor
     . rintro(h|⟨q,hq,e⟩)
       . exact .inl h
       . exact .inr ⟨q,aM _ hq,e⟩
     . rintro(h|⟨q,hq,e⟩)
       . exact .inl h
       . rcases List.mem_cons.1 hq with rfl|hq
         . exact .inl (e ▸ hm)
         . exact .inr ⟨q,hq,e⟩
   . rw[if_neg hc];have hm:p.zone.apex ∉ out:=λe=>hc (df.2 e)
     obtain⟨h1,h2⟩:=ih (out++[p.zone.apex]) (by
      rw[List.nodup_append];exact⟨h,by simp,λa ha b hb=>by rw[List.mem_singleton]at hb;subst hb;exact λe=>hm (e ▸ ha)⟩)
     refine⟨h1,λa=>?_⟩;rw[h2];constructor
     . rintro(h|⟨q,hq,e⟩)
       . rcases List.mem_append.1 h with h|h
         . exact .inl h
         . rw[List.mem_singleton]at h;exact .inr ⟨p,List.mem_cons_self .., h.symm⟩
       . exact .inr ⟨q,aM _ hq,e⟩
     . rintro(h|⟨q,hq,e⟩)
       . exact .inl (List.mem_append.2 (.inl h))
       . rcases List.mem_cons.1 hq with rfl|hq
         . exact .inl (List.mem_append.2 (.inr (by rw[List.mem_singleton];exact e.symm)))
         . exact .inr ⟨q,hq,e⟩
 obtain⟨h1,h2⟩:=key l [] List.nodup_nil;exact⟨h1,λa=>(h2 a).trans (by simp)⟩
theorem Jg{l l' :List ai}(h:∀p∈l',p∈l):(eu l').length<=(eu l).length:=by
 refine qP (nN l').1 λa ha=>?_
 obtain⟨p,hp,e⟩:=((nN l').2 a).1 ha;exact((nN l).2 a).2 ⟨p,h p hp,e⟩
end NP
namespace Go.Proofs.YtjapjahfllomkaaGreatDoor
open NQ Go NP Go.RowKit
end Go.Proofs.YtjapjahfllomkaaGreatDoor
namespace NP
open NQ Go
theorem BO{ok:ai->Bool}{better:ai->ai->Bool}(hirr:∀p,better p p=false)(htr:∀p q r,better p q=true->better q r=true->better p r=true):∀(l:List ai) (i:Nat) (b:Option (Nat×ai)) (x:Nat×ai),fE ok better i l b=some x ->
 (b=some x\/(x.2∈l/\ok x.2=true))/\(∀e,(∀y,b=some y->better e y.2=false)->b≠none->better e x.2=false)/\ ∀p∈l,ok p=true->better p x.2=false
 |[],i,b,x,h=>by cases h;exact⟨.inl rfl,λe he _=>he x rfl,λp hp=>by cases hp⟩
 |p::t,i,b,x,h=>by
  have h' :fE ok better (i+1) t (bO ok better i p b)=some x:=h;obtain⟨h1,h2,h3⟩:=BO hirr htr t (i+1) _ x h';by_cases hp:ok p=true
  . cases b with
    |none =>
     have e0:bO ok better i p none=some (i,p):=by unfold bO;rw[if_pos hp]
     rw[e0]at h1 h2;refine⟨.inr ?_,λe he hb=>absurd rfl hb,λq hq hoq=>?_⟩
     . rcases h1 with h1|h1
       . cases h1;exact⟨List.mem_cons_self .., hp⟩
       . exact⟨aM _ h1.1,h1.2⟩
     . rcases List.mem_cons.1 hq with rfl|hq
       . exact h2 q (λy hy=>by cases hy;exact hirr q) (by simp)
       . exact h3 q hq hoq
    |some y =>
     by_cases hbt:better p y.2=true
     . have e0:bO ok better i p (some y)=some (i,p):=by unfold bO;rw[if_pos hp];dsimp only;rw[if_pos hbt]
       rw[e0]at h1 h2;refine⟨.inr ?_,λe he _=>?_,λq hq hoq=>?_⟩
       . rcases h1 with h1|h1
         . cases h1;exact⟨List.mem_cons_self .., hp⟩
         . exact⟨aM _ h1.1,h1.2⟩
       . refine h2 e (λz hz=>?_) (by simp);cases hz;cases hc:better e p with
         |false=>rfl
         |true =>
          have:=htr e p y.2 hc hbt;rw[he y rfl]at this;cases this
       . rcases List.mem_cons.1 hq with rfl|hq
         . exact h2 q (λz hz=>by cases hz;exact hirr q) (by simp)
         . exact h3 q hq hoq
     . have e0:bO ok better i p (some y)=some y:=by unfold bO;rw[if_pos hp];dsimp only;rw[if_neg hbt]
       rw[e0]at h1 h2;refine⟨h1.imp id λh1=>⟨aM _ h1.1,h1.2⟩,λe he hb=>h2 e he hb,λq hq hoq=>?_⟩;rcases List.mem_cons.1 hq with rfl|hq
       . exact h2 q (λz hz=>by cases hz;simpa using hbt) (by simp)
       . exact h3 q hq hoq
  . have e0:bO ok better i p b=b:=by unfold bO;rw[if_neg hp]
    rw[e0]at h1 h2;refine⟨h1.imp id λh1=>⟨aM _ h1.1,h1.2⟩,h2,λq hq hoq=>?_⟩;rcases List.mem_cons.1 hq with rfl|hq
    . exact absurd hoq hp
    . exact h3 q hq hoq
theorem mq(p q:ai):dO p q=true ↔ (dY q.zone).1<(dY p.zone).1\/((dY p.zone).1=(dY q.zone).1/\p.host<q.host):=by
 unfold dO;simp
theorem MO(p:ai):dO p p=false:=by
 rw[<- Bool.not_eq_true,mq];omega
theorem PK(p q r:ai)(h:dO p q=true)(k:dO q r=true):dO p r=true:=by
 rw[mq]at h k ⊢;omega
theorem cF{zs:List ai}{a:Bs}{x:Nat×ai}(h:aR zs a=some x):x.2∈zs/\x.2.zone.apex=a/\ ∀p∈zs,p.zone.apex=a->dO p x.2=false:=by
 obtain⟨h1,_,h3⟩:=BO MO PK zs 0 none x h;rcases h1 with h1|h1
 . cases h1
 . exact⟨h1.1,by simpa using h1.2,λp hp ha=>h3 p hp (by simpa using ha)⟩
theorem mi{zs:List ai}{a:Bs}:aR zs a=none ↔ ∀p∈zs,p.zone.apex≠a:=by
 unfold aR;rw[km];simp
theorem LR{zs zs' :List ai}(hp:zs.Pairwise (λx p=>cr p x=false))(hm:∀p,p∈zs ↔ p∈zs')(a:Bs):(aR zs a).map (·.2)=(aR zs' a).map (·.2):=by
 cases h:aR zs a with
 |none =>
  have:aR zs' a=none:=mi.2 λp hp=>mi.1 h p ((hm p).2 hp)
  rw[this]
 |some x =>
  obtain⟨x1,x2,x3⟩:=cF h;cases h' :aR zs' a with
  |none=>exact absurd x2 (mi.1 h' x.2 ((hm _).1 x1))
  |some y =>
   obtain⟨y1,y2,y3⟩:=cF h';have g1:=x3 y.2 ((hm _).2 y1) y2;have g2:=y3 x.2 ((hm _).1 x1) x2;have hh:x.2.host=y.2.host:=by
    rw[<- Bool.not_eq_true,mq]at g1 g2;omega
   have:=qT hp x1 ((hm _).2 y1) hh (x2.trans y2.symm);exact congrArg some this
theorem uq{zs zs' :List ai}(h:∀a,(aR zs a).map (·.2)=(aR zs' a).map (·.2))(q:aV):∀(f:Nat) (a:Bs),jf zs (gi zs) q f a=jf zs' (gi zs') q f a
 |0,a=>rfl
 |f+1,a=>by
  rw[vZ,vZ];have:=h a;cases hx:aR zs a with
  |none =>
   cases hy:aR zs' a with
   |none=>rfl
   |some y=>rw[hx,hy]at this;cases this
  |some x =>
   cases hy:aR zs' a with
   |none=>rw[hx,hy]at this;cases this
   |some y =>
    rw[hx,hy]at this;have e:x.2=y.2:=Option.some.inj this;dsimp only;rw[e,uq h q f]
theorem ur{zs zs' :List ai}(h:∀a,(aR zs a).map (·.2)=(aR zs' a).map (·.2)):∀(f:Nat) (q:aV) (kept:List Signed),gZ zs f q kept=gZ zs' f q kept
 |0,q,kept=>rfl
 |f+1,q,kept=>by
  have e:dI zs q=dI zs' q:=uq h q _ _;unfold gZ;rw[e];split
  . rfl
  . split
    . rfl
    . cases (dI zs' q).1.sets.head? with
      |none=>rfl
      |some s =>
       dsimp only;cases s.set.data.head? with
       |none=>rfl
       |some d=>exact ur h f _ _
theorem xK{w w' :ay}{q:aV}(hv:aK w=true)(hv' :aK w' =true)(hq:bK q=true)(h:∀a,(aR w.zones a).map (·.2)=(aR w'.zones a).map (·.2)):dA w q=dA w' q:=by
 rw[CD hv hq,CD hv' hq,ur h]
def gy(z:aF):Int:=match z.sets.find? (λs=>s.set.type==4)with|some s=>(match s.set.data[0]? with|some d=>d.n|none=>0)|none=>0
theorem IP{z:aF}(hv:aY z=true):gy z=gz z:=by
 have V:=dq.1 hv;obtain⟨s,hs,hm,hp⟩:=tA V.ord (q:=⟨z.apex,4⟩) V.ord.apex V.start;have hp4:s.set.type=4:=congrArg Prod.snd hp;have hR:RP z.sets:=V.ord.rising.pw;unfold gy gz;rw[hs];cases hf:z.sets.find? (λs=>s.set.type==4)with
 |none =>
  have:=List.find?_eq_none.1 hf s hm;simp[hp4]at this
 |some x =>
  have hx:=List.mem_of_find?_eq_some hf;have hx4:x.set.type=4:=by simpa using List.find?_some hf
  have hfit:=V.fit x hx;rw[hx4]at hfit;have hn:x.set.name=z.apex:=by simpa [fits] using hfit
  have:x=s:=hR.uniq hx hm (by
   rw[hp];show(x.set.name,x.set.type)=(z.apex,4)
   rw[hn,hx4])
  subst this;rfl
def ic(p q:ai):Int:=jL [cZ (gy q.zone) (gy p.zone),cZ p.host q.host]
theorem mh(p q:ai):ic p q<0 ↔ gy q.zone<gy p.zone\/(gy q.zone=gy p.zone/\p.host<q.host):=by
 unfold ic jL cZ;by_cases h1:gy q.zone<gy p.zone
 . simp[h1]
 . by_cases h2:gy p.zone<gy q.zone
   . have:¬gy q.zone=gy p.zone:=by omega
     simp[h1,h2,this]
   . have:gy q.zone=gy p.zone:=by omega
     by_cases h3:p.host<q.host
     . simp[this,h3]
     . by_cases h4:q.host<p.host
       . simp[this,h3,h4]
       . simp[this,h3,h4]
theorem pB(l:List ai):jn ic l:=by
 refine⟨λx _=>?_,λx _ y _ z _=>?_,λx _ y _ z _=>?_⟩
 . show ¬ic x x<0
   rw[mh];omega
 . show ic x y<0->ic y z<0->ic x z<0
   rw[mh,mh,mh];omega
 . show ¬ic x y<0-> ¬ic y z<0-> ¬ic x z<0
   rw[mh,mh,mh];omega
theorem Js{p q:ai}(hp:aY p.zone=true)(hq:aY q.zone=true):ic p q<0 ↔ dO p q=true:=by
 rw[mh,mq,Am hp,Am hq,IP hp,IP hq];dsimp only;omega
def rO(l:List ai)(a:Bs):Bool:=l.any λx=>x.zone.apex==a
def bZ(out:List ai)(p:ai):List ai:=if rO out p.zone.apex=true then out else out++[p]
def jZ(l:List ai):List ai:=l.foldl bZ []
theorem Kx(l:List ai)(p:ai):jZ (l++[p])=bZ (jZ l) p:=by unfold jZ;rw[List.foldl_append];rfl
theorem EA{l:List ai}{a:Bs}:rO l a=true ↔ ∃x∈l,x.zone.apex=a:=by
 unfold rO;simp
theorem sF{c:ai->ai->Int}:∀(l out:List ai),(out++l).Pairwise (λx y=> ¬c y x<0)->out.Pairwise (λx y=>x.zone.apex≠y.zone.apex) ->
 (l.foldl bZ out).Pairwise (λx y=>x.zone.apex≠y.zone.apex)/\(∀x∈l.foldl bZ out,x∈out++l)/\(∀x∈out,x∈l.foldl bZ out)/\ ∀x∈l,∃y∈l.foldl bZ out,y.zone.apex=x.zone.apex/\(y=x\/ ¬c x y<0)
 |[],out,_,h=>⟨h,λx hx=>by simpa using hx,λx hx=>hx,λx hx=>by cases hx⟩
 |p::t,out,hs,h=>by
  show(t.foldl bZ (bZ out p)).Pairwise _/\(∀x∈t.foldl bZ (bZ out p),_)/\(∀x∈out,x∈t.foldl bZ (bZ out p))/\ ∀x∈p::t,∃y∈t.foldl bZ (bZ out p),_
  have hs0:=List.pairwise_append.1 hs;by_cases hp:rO out p.zone.apex=true
  . have e:bZ out p=out:=by unfold bZ;rw[if_pos hp]
    rw[e];have hs' :(out++t).Pairwise (λx y=> ¬c y x<0):=List.pairwise_append.2 ⟨hs0.1,(List.pairwise_cons.1 hs0.2.1).2,λa ha b hb=>hs0.2.2 a ha b (aM _ hb)⟩;obtain⟨k1,k2,k3,k4⟩:=sF t out hs' h;refine⟨k1,λx hx=>?_,k3,λx hx=>?_⟩
    . rcases List.mem_append.1 (k2 x hx)with hx|hx
      . exact List.mem_append.2 (.inl hx)
      . exact List.mem_append.2 (.inr (aM _ hx))
    . rcases List.mem_cons.1 hx with rfl|hx
      . obtain⟨y,hy,ha⟩:=EA.1 hp;exact⟨y,k3 y hy,ha,.inr (hs0.2.2 y hy x (List.mem_cons_self ..))⟩
      . exact k4 x hx
  . have e:bZ out p=out++[p]:=by unfold bZ;rw[if_neg hp]
    rw[e];have hs' :((out++[p])++t).Pairwise (λx y=> ¬c y x<0):=by rw[List.append_assoc];exact hs
    have hno:∀x∈out,x.zone.apex≠p.zone.apex:=λx hx ha=>hp (EA.2 ⟨x,hx,ha⟩)
    have h' :(out++[p]).Pairwise (λx y=>x.zone.apex≠y.zone.apex):=List.pairwise_append.2 ⟨h,List.pairwise_singleton _ _,λa ha b hb=>by rw[List.mem_singleton]at hb;subst hb;exact hno a ha⟩;obtain⟨k1,k2,k3,k4⟩:=sF t (out++[p]) hs' h';refine⟨k1,λx hx=>?_,λx hx=>k3 x (List.mem_append.2 (.inl hx)),λx hx=>?_⟩
    . have:=k2 x hx;rw[List.append_assoc]at this;exact this
    . rcases List.mem_cons.1 hx with rfl|hx
      . exact⟨x,k3 x (List.mem_append.2 (.inr (List.mem_singleton.2 rfl))),rfl,.inl rfl⟩
      . exact k4 x hx
def fb(zs:List ai):List ai:=jZ (dm ic zs)
structure QJ(zs:List ai):Prop where
 apart:(fb zs).Pairwise (λx y=>x.zone.apex≠y.zone.apex)
 sub:∀x∈fb zs,x∈zs
 copy:∀a,(aR (fb zs) a).map (·.2)=(aR zs a).map (·.2)
 mem:∀x,x∈fb zs ↔ (aR zs x.zone.apex).map (·.2)=some x
theorem SX{zs:List ai}(hv:∀p∈zs,aY p.zone=true)(hp:zs.Pairwise (λx p=>cr p x=false)):QJ zs:=by
 have hperm:=gP (pB zs);obtain⟨k1,k2,_,k4⟩:=sF (c:=ic) (dm ic zs) [] (by simpa using qs (pB zs)) List.Pairwise.nil;have k1:(fb zs).Pairwise (λx y=>x.zone.apex≠y.zone.apex):=k1;have sub:∀x∈fb zs,x∈zs:=λx hx=>hperm.subset (by simpa using k2 x hx)
 have uniq:∀{x y:ai},x∈fb zs->y∈fb zs->x.zone.apex=y.zone.apex->x=y:=λ{x y} hx hy e=>by
  by_cases h:x=y
  . exact h
  . have:∀{l:List ai},l.Pairwise (λx y=>x.zone.apex≠y.zone.apex)->x∈l->y∈l->x=y:=λ{l} hl=>by
     induction l with
     |nil=>intro h;cases h
     |cons a t ih =>
      intro h1 h2;have hl' :=List.pairwise_cons.1 hl;rcases List.mem_cons.1 h1 with e1|h1
      . rcases List.mem_cons.1 h2 with e2|h2
        . rw[e1,e2]
        . exact absurd (by rw[<- e1];exact e) (hl'.1 y h2)
      . rcases List.mem_cons.1 h2 with e2|h2
        . exact absurd (by rw[<- e2];exact e.symm) (hl'.1 x h1)
        . exact ih hl'.2 h1 h2
    exact this k1 hx hy
 have best:∀{x:ai},x∈fb zs-> ∀q∈zs,q.zone.apex=x.zone.apex->dO q x=false:=λ{x} hx q hq e=>by
  obtain⟨y,hy,ey,hc⟩:=k4 q (hperm.mem_iff.2 hq);have:y=x:=uniq hy hx (ey.trans e);subst this;rw[Bool.eq_false_iff];intro hn;rcases hc with hc|hc
  . subst hc;rw[mq]at hn;omega
  . exact hc ((Js (hv q hq) (hv _ (sub _ hx))).2 hn)
 have cp:∀{x:ai},x∈fb zs->(aR zs x.zone.apex).map (·.2)=some x:=λ{x} hx=>by
  cases h:aR zs x.zone.apex with
  |none=>exact absurd rfl (mi.1 h x (sub x hx))
  |some y =>
   obtain⟨h1,h2,h3⟩:=cF h;have b1:=best hx y.2 h1 h2;have b2:=h3 x (sub x hx) rfl;have:y.2=x:=by
    rw[Bool.eq_false_iff]at b1 b2;rw[Ne,mq]at b1 b2;exact qT hp h1 (sub x hx) (by omega) h2
   rw[<- this];rfl
 refine⟨k1,sub,λa=>?_,λx=>⟨cp,λh=>?_⟩⟩
 . cases h:aR (fb zs) a with
   |none =>
    cases h' :aR zs a with
    |none=>rfl
    |some y =>
     obtain⟨h1,h2,_⟩:=cF h';obtain⟨z,hz,ez,_⟩:=k4 y.2 (hperm.mem_iff.2 h1);exact absurd (ez.trans h2) (mi.1 h z hz)
   |some y =>
    obtain⟨h1,h2,_⟩:=cF h;have:=cp h1;rw[h2]at this;rw[this];rfl
 . cases hc:aR zs x.zone.apex with
   |none=>rw[hc]at h;cases h
   |some y =>
    rw[hc]at h;have ey:y.2=x:=by simpa using h
    obtain⟨h1,h2,_⟩:=cF hc;obtain⟨z,hz,ez,_⟩:=k4 y.2 (hperm.mem_iff.2 h1);have:=cp hz;rw[ez,h2,hc]at this;have e2:y.2=z:=by simpa using this
    rw[<- ey,e2];exact hz
theorem ji{w:ay}(h:aK w=true):QJ w.zones:=SX (λp hp=>(bE h p hp).1) (sf h)
theorem rE:∀(l out:List ai),(l.foldl bZ out).length<=out.length+l.length
 |[],out=>by simp
 |p::t,out=>by
  have:=rE t (bZ out p);have h2:(bZ out p).length<=out.length+1:=by
   unfold bZ;split
   . omega
   . simp
  show(t.foldl bZ (bZ out p)).length<=_
  rw[List.length_cons];omega
theorem AT(zs:List ai):(fb zs).length<=zs.length:=by
 have:=rE (dm ic zs) [];rw[(gP (pB zs)).length_eq]at this;simpa [fb,jZ] using this
theorem xL{w:ay}{l:List ai}(h:aK w=true)(hm:∀p∈l,p∈w.zones)(hl:l.length<=w.zones.length)(hp:l.Pairwise (λx p=>cr p x=false)):aK (eL w l)=true:=by
 unfold aK iX at h ⊢;simp only[aB,decide_eq_true_eq]at h ⊢;obtain⟨⟨h1,⟨h2,h3⟩,h4⟩,h5⟩:=h;have ha:=Jg (l:=w.zones) (l' :=l) hm;rw[sk]at h4;rw[kr]at h3;exact⟨⟨h1,⟨by show(l.length:Int)<=4000;omega,by
  show dx w.hosts.length [] l=true
  rw[kr];exact⟨λp hp=>h3.1 p (hm p hp),hp⟩⟩,by show((apx l).length:Int)<=500;rw[sk];omega⟩,h5⟩
def uJ(w:ay):ay:=eL w (fb w.zones)
theorem LK{w:ay}(h:aK w=true):aK (uJ w)=true:=by
 have C:=ji h;refine xL h C.sub (AT _) (C.apart.imp λ{x y} hxy=>?_);unfold cr;rw[Bool.and_eq_false_iff];right;rw[beq_eq_false_iff_ne];exact Ne.symm hxy
theorem Ic{w:ay}(hF:cw w)(h:aK w=true):cw (uJ w) :=
 ⟨hF.hosts,Nat.le_trans (AT _) hF.zones,hF.hints,λp hp=>hF.few p ((ji h).sub p hp)⟩
theorem BR{w:ay}{q:aV}(h:aK w=true):dA (uJ w) q=dA w q:=by
 by_cases hq:bK q=true
 . exact xK (LK h) h hq λa=>(ji h).copy a
 . have hq' :bK q=false:=by simpa using hq
   unfold dA;rw[if_pos (by rw[hq',gV]),if_pos (by rw[hq',gV])]
/-! ### Findings in order -/
structure Fnd where
 kind:Int
 zone:Bs
 name:Bs
deriving DecidableEq
def cg(f:Fnd):List D:=[.int .i64 f.kind,.str f.zone,.str f.name]
def gI(a b:Fnd):Int:=jL [cZ a.kind b.kind,aI a.zone b.zone,aI a.name b.name]
theorem wx(a b:Fnd):gI a b<0 ↔ a.kind<b.kind\/(a.kind=b.kind/\(aI a.zone b.zone<0\/(a.zone=b.zone/\aI a.name b.name<0))):=by
 unfold gI;rw[IG];have hz:=bp.zero a.zone b.zone;unfold cZ;by_cases h1:a.kind<b.kind
 . simp[h1]
 . by_cases h2:b.kind<a.kind
   . have:¬a.kind=b.kind:=by omega
     simp[h1,h2,this]
   . have h3:a.kind=b.kind:=by omega
     simp only[h1,h2,if_false,if_true];by_cases h4:aI a.zone b.zone=0
     . have h5:=hz.1 h4;rw[if_pos h4];have h6:¬aI a.zone b.zone<0:=by omega
       constructor
       . intro h;exact .inr ⟨h3,.inr ⟨h5,h⟩⟩
       . rintro(h|⟨_,h|⟨_,h⟩⟩)
         . exact h.elim
         . exact absurd h h6
         . exact h
     . have h5:¬a.zone=b.zone:=λe=>h4 (hz.2 e)
       rw[if_neg h4];simp[h3,h5]
theorem BS{a b:Fnd}(h1:¬gI a b<0)(h2:¬gI b a<0):a=b:=by
 rw[wx]at h1 h2;have hk:a.kind=b.kind:=by omega
 have hz:a.zone=b.zone:=by
  have:=bp.anti a.zone b.zone;exact(bp.zero _ _).1 (by omega)
 have hn:a.name=b.name:=by
  have:=bp.anti a.name b.name;have h3:¬aI a.name b.name<0:=λe=>h1 (.inr ⟨hk,.inr ⟨hz,e⟩⟩)
  have h4:¬aI b.name a.name<0:=λe=>h2 (.inr ⟨hk.symm,.inr ⟨hz.symm,e⟩⟩)
  exact(bp.zero _ _).1 (by omega)
 cases a;cases b;simp at hk hz hn;simp[hk,hz,hn]
theorem uj{a b c:Bs}(h1:aI a b<0)(h2:aI b c<0):aI a c<0:=bp.Ue h1 (by omega)
theorem mH{a b c:Fnd}(h1:gI a b<0)(h2:gI b c<0):gI a c<0:=by
 rw[wx]at h1 h2 ⊢;rcases h1 with h1|⟨h1,h1'⟩
 . rcases h2 with h2|⟨h2,_⟩
   . exact .inl (by omega)
   . exact .inl (by omega)
 . rcases h2 with h2|⟨h2,h2'⟩
   . exact .inl (by omega)
   . refine .inr ⟨by omega,?_⟩;rcases h1' with h1' |⟨e1,h1'⟩
     . rcases h2' with h2' |⟨e2,h2'⟩
       . exact .inl (uj h1' h2')
       . exact .inl (by rw[<- e2];exact h1')
     . rcases h2' with h2' |⟨e2,h2'⟩
       . exact .inl (by rw[e1];exact h2')
       . exact .inr ⟨e1.trans e2,uj h1' h2'⟩
theorem sZ(a:Fnd):¬gI a a<0:=by
 rw[wx];have h1:=(bp.zero a.zone a.zone).2 rfl;have h2:=(bp.zero a.name a.name).2 rfl;omega
def lO(l:List Fnd):Prop:=l.Pairwise λa b=>gI a b<0
theorem lO.nodup{l:List Fnd}(h:lO l):l.Nodup:=h.imp λ{a b} hab e=>by subst e;exact sZ a hab
theorem lO.ext{a b:List Fnd}(ha:lO a)(hb:lO b)(h:∀x,x∈a ↔ x∈b):a=b :=
 List.Perm.eq_of_pairwise (le:=λa b=>gI a b<0) (λa b _ _ h1 h2=>absurd (mH h1 h2) (sZ a)) ha hb ((List.perm_ext_iff_of_nodup ha.nodup hb.nodup).2 h)
def rP(f:Fnd):List Fnd->List Fnd
 |[]=>[f]
 |g::t=>if f=g then g::t else if gI f g<0 then f::g::t else g::rP f t
theorem yz(f x:Fnd):∀l,x∈rP f l ↔ x=f\/x∈l
 |[]=>by simp[rP]
 |g::t=>by
  unfold rP;split
  . rename_i h;subst h;simp
  . split
    . simp
    . rw[List.mem_cons,yz f x t,List.mem_cons];constructor
      . rintro(h|h|h)
        . exact .inr (.inl h)
        . exact .inl h
        . exact .inr (.inr h)
      . rintro(h|h|h)
        . exact .inr (.inl h)
        . exact .inl h
        . exact .inr (.inr h)
theorem Ca(f:Fnd):∀{l:List Fnd},lO l->lO (rP f l)
 |[],_=>List.pairwise_singleton _ _
 |g::t,h=>by
  have h' :=List.pairwise_cons.1 h;unfold rP;split
  . exact h
  . rename_i hne;split
    . rename_i hlt;refine List.pairwise_cons.2 ⟨λx hx=>?_,h⟩;rcases List.mem_cons.1 hx with rfl|hx
      . exact hlt
      . exact mH hlt (h'.1 x hx)
    . rename_i hlt;refine List.pairwise_cons.2 ⟨λx hx=>?_,Ca f h'.2⟩;rcases (yz f x t).1 hx with rfl|hx
      . rcases Classical.em (gI g x<0)with h1|h1
        . exact h1
        . exact absurd (BS hlt h1) hne
      . exact h'.1 x hx
def nc(l:List Fnd):List Fnd:=l.foldl (λout f=>rP f out) []
theorem yL:∀(l out:List Fnd),lO out->lO (l.foldl (λout f=>rP f out) out)/\ ∀x,x∈l.foldl (λout f=>rP f out) out ↔ x∈out\/x∈l
 |[],out,h=>⟨h,λx=>by simp⟩
 |f::t,out,h=>by
  obtain⟨k1,k2⟩:=yL t (rP f out) (Ca f h);refine⟨k1,λx=>(k2 x).trans ?_⟩;rw[yz,List.mem_cons];constructor
  . rintro((h|h)|h)
    . exact .inr (.inl h)
    . exact .inl h
    . exact .inr (.inr h)
  . rintro(h|h|h)
    . exact .inl (.inr h)
    . exact .inl (.inl h)
    . exact .inr h
theorem nf(l:List Fnd):lO (nc l):=(yL l [] List.Pairwise.nil).1
theorem kI{l:List Fnd}{x:Fnd}:x∈nc l ↔ x∈l:=((yL l [] List.Pairwise.nil).2 x).trans (by simp)
theorem nY{l l' :List Fnd}(h:∀x,x∈l ↔ x∈l'):nc l=nc l' :=(nf l).ext (nf l') λx=>by rw[kI,kI,h]
/-! ### Who serves what -/
def addrOf(hs:List dD)(k:Int):Int:=match hs[k.toNat]? with|some h=>h.addr|none=>0
def mZ(w:ay)(p:ai):Bs×Int:=(p.zone.apex,addrOf w.hosts p.host)
def bc(w:ay)(a:Bs)(n:Int):Bool:=w.zones.any λp=>(p.zone.apex==a)&&(addrOf w.hosts p.host==n)
theorem vt:∀(l:List dD) (seen:List Int),iA seen l=true->l.Pairwise (λx y=>x.addr≠y.addr)/\ ∀x∈l,x.addr ∉ seen
 |[],_,_=>⟨List.Pairwise.nil,λx hx=>by cases hx⟩
 |x::t,seen,h=>by
  unfold iA at h;simp only[aB,Bool.not_eq_true',Bool.or_eq_false_iff]at h;obtain⟨k1,k2⟩:=vt t _ h.2;have hx:x.addr ∉ seen:=λe=>by
   have:=h.1.2.2;rw[df.2 e]at this;cases this
  refine⟨List.Pairwise.cons (λy hy e=>k2 y hy (by rw[<- e];simp)) k1,λy hy=>?_⟩;rcases List.mem_cons.1 hy with rfl|hy
  . exact hx
  . exact λe=>k2 y hy (List.mem_append.2 (.inl e))
theorem JT{w:ay}(h:aK w=true):w.hosts.Pairwise (λx y=>x.addr≠y.addr):=by
 unfold aK kE at h;simp only[aB]at h;exact(vt _ _ h.1.1.2).1
theorem EC:∀{l:List dD},l.Pairwise (λx y=>x.addr≠y.addr)-> ∀{k:Nat} {h:dD},l[k]? =some h->cN l h.addr=(k:Int)
 |[],_,k,h,hk=>by simp at hk
 |x::t,hp,k,h,hk=>by
  have hp' :=List.pairwise_cons.1 hp;cases k with
  |zero =>
   have:x=h:=by simpa using hk
   subst this;unfold cN;rw[List.findIdx?_cons,if_pos (by simp)]
  |succ k =>
   have hk' :t[k]? =some h:=by simpa using hk
   have ih:=EC hp'.2 hk';have hne:x.addr≠h.addr:=hp'.1 h (aq hk');unfold cN at ih ⊢;rw[List.findIdx?_cons,if_neg (by simpa using hne)];cases hf:t.findIdx? (λy=>y.addr==h.addr)with
   |none=>rw[hf]at ih;dsimp only at ih;omega
   |some j =>
    rw[hf]at ih;have:j=k:=by dsimp only at ih;omega
    subst this;rfl
theorem zL{l:List dD}{a:Int}{k:Nat}(h:cN l a=(k:Int)):∃x,l[k]? =some x/\x.addr=a:=by
 unfold cN at h;cases hf:l.findIdx? (λy=>y.addr==a)with
 |none=>rw[hf]at h;dsimp only at h;omega
 |some j =>
  rw[hf]at h;have e:j=k:=by dsimp only at h;omega
  subst e;obtain⟨h1,h2,_⟩:=List.findIdx?_eq_some_iff_getElem.1 hf;exact⟨l[j],ag h1,by simpa using h2⟩
theorem qM{w:ay}(h:aK w=true){p:ai}(hp:p∈w.zones)(n:Int):(p.host==cN w.hosts n)=(addrOf w.hosts p.host==n):=by
 obtain⟨_,h0,h1⟩:=bE h p hp;obtain⟨k,hk⟩:∃k:Nat,p.host=(k:Int):=⟨p.host.toNat,by omega⟩
 obtain⟨x,hx⟩:∃x,w.hosts[k]? =some x:=⟨_,ag (by omega)⟩
 have ha:addrOf w.hosts p.host=x.addr:=by unfold addrOf;rw[hk,Int.toNat_natCast,hx]
 rw[ha,hk];by_cases e:x.addr=n
 . subst e;rw[EC (JT h) hx];simp
 . have:¬(k:Int)=cN w.hosts n:=λe' =>by
    obtain⟨y,hy,hya⟩:=zL e'.symm;rw[hx]at hy;have:x=y:=by simpa using hy
    subst this;exact e hya
   rw[beq_eq_false_iff_ne.2 this,beq_eq_false_iff_ne.2 e]
/-! ### The servers of a zone -/
def bS(z:aF)(a:Bs):List Bs:=(z.sets.filter λs=>(s.set.name==a)&&(s.set.type==2)).flatMap λs=>s.set.data.map (·.text)
def gk(zs:List ai):Nat->Bs->Option Bs
 |0,_=>none
 |f+1,s=>if s=[46]then none else if (aR zs (bw s)).isSome=true then some (bw s)else gk zs f (bw s)
def cR(zs:List ai)(a:Bs):Option Bs:=gk zs ((bj a).length+1) a
def fK(zs:List ai)(b a:Bs):List Bs:=match aR zs b with|some x=>bS x.2.zone a|none=>[]
def bB(zs:List ai)(a:Bs):List Bs×Bool:=match cR zs a with
 |some b=>(fK zs b a,decide (0<(fK zs b a).length))
 |none=>if a=[46]then(fK zs a a,true)else([],false)
/-! ### Addresses -/
def iE(A:Ans×Int):List Datum:=if A.2=0/\(A.1.kind=1\/A.1.kind=2)then(match (A.1.sets.filter λs=>s.set.type==1).getLast? with|some s=>s.set.data|none=>[])else[]
def cT(w:ay)(s:Bs):List Int:=(iE (dA w ⟨s,1⟩)).map (·.n)
def iZ(z:aF)(s:Signed):Bool:=(s.set.type==1)&& !(bU z s.set.name==[])
def mL(w:ay)(a s:Bs):List Fnd:=(if (cT w s).isEmpty=true then[⟨3,a,s⟩]else[])++(if (cT w s).any (λn=> !bc w a n)=true then[⟨1,a,s⟩]else[])
def lR(w:ay)(a:Bs)(s:gG):List Fnd:=if (cT w s.name==s.data.map (·.n))=true then[]else[⟨2,a,s.name⟩]
def ju(w:ay)(z:aF):List Fnd:=if ((bB w.zones z.apex).2&&((bB w.zones z.apex).1==bS z z.apex))=true then[]else[⟨4,z.apex,z.apex⟩]
def pa(w:ay)(z:aF):List Fnd:=ju w z++(bB w.zones z.apex).1.flatMap (mL w z.apex)++(z.sets.filter (iZ z)).flatMap λs=>lR w z.apex s.set
def findAll(w:ay):List Fnd:=(fb w.zones).flatMap λp=>pa w p.zone
def fp(w:ay):List Fnd:=nc (findAll w)
end NP
