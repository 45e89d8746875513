/-
  Merged texts.
-/
import Derived.Test.YtmaepddmaghpjaaGreatDoorMGa
import Derived.Test.YtmaepddmaghpjaaGreatDoorQsoM
import Derived.Test.YtmaepddmaghpjaaGreatDoorSortM
set_option linter.all false
set_option maxRecDepth 100000
namespace NP
open NQ Go
theorem Dq(s:Bs):0<=gp s/\gp s<=8:=by
 unfold gp dC;split
 . rename_i h;have:=GZ h;dsimp only;omega
 . simp
def jN(a b:aF):Int:=gp b.apex-gp a.apex
def KF:List D->Bs
 | .str s::_=>s
 |_=>[]
def PZ(x y:List D):Int:=gp (KF y)-gp (KF x)
theorem vF(l:List aF):jb jN l:=jb.key (λz=> -gp z.apex) λx _ y _=>by unfold jN;omega
theorem JW(l:List aF):de PZ (l.map aT)=(de jN l).map aT:=vo aT jN PZ l λx _ y _=>rfl
def lY(k:Int)(q:aR)(p:ai):Bool:=decide (p.host=k)&&(bq q.name p.zone.apex).1
def cH(zs:List ai)(k:Int)(q:aR):List aF:=(zs.filter (lY k q)).map (·.zone)
def hX(l:List eu)(a:Int):Int:=match l.findIdx? (λh=>h.addr==a)with|some k=>(k:Int)|none=> -1
def oO(q:aR)(l:List aF):Option aF:=match l with
 |[]=>none
 |z::t=>if ((q.type==6)&&(z.apex==q.name))=true then(match t with|y::_=>some y|[]=>some z)else some z
def ml(w:az)(a:Int)(q:aR):Ans×Int :=
 if (aN w&&bK q)=false then(je,1)else if hX w.hosts a<0 then(je,4)
 else match oO q (de jN (cH w.zones (hX w.hosts a) q))with
  |none=>(⟨7,[],[]⟩,0)
  |some z=>cn z q
end NP
namespace Go.Proofs.YtmaepddmaghpjaaGreatDoor
open NQ Go NP Go.RowKit
noncomputable def xt:Cx:={cx with chg:=λg=>match Nat.beq g 77 with|true=>2|false=>cx.chg g}
theorem TH:bl xt:=aO
theorem Rr:xt.P.follows .mixedOrders=true:=mixed
theorem Qz(a b:aF):NQ.Fn cx 78 [.agg (aT a),.agg (aT b)] (.d (.int .i64 (jN a b))) []:=by
 refine aA aO mixed Tryz.func78 (by kernel_rfl) rfl (ag rfl) ?_;conv=>whnf
 (refine⟨(by kernel_rfl:bg _ _=true),?_⟩;conv=>whnf)
 (refine⟨_,_,BU b.apex,?_⟩;conv=>whnf)
 (refine⟨_,_,BU a.apex,?_⟩;conv=>whnf)
 refine af rfl ?_;show AV.d (.int .i64 (IntKind.i64.wrap (gp b.apex-gp a.apex)))=_
 have h1:=Dq a.apex;have h2:=Dq b.apex;rw[wrap_i64 (by omega) (by omega)];rfl
theorem MB(l:List aF)(hl:l.length<=100000)(fl:Bool):FnR cx 77 false 45 2 (l.map aT) fl [.fn 78 [] []] ((de jN l).map aT):=by
 rw[<- JW];exact xZ (cx:=cx) (ρ:=Tryz.zB) Tryz.SO (k:=2) Tryz.isAgg45 Tryz.sizeOf45 ⟨_,Tryz.func77,by kernel_rfl,rfl⟩
  (λx hx y hy=>by
   obtain⟨a,ha,rfl⟩:=List.mem_map.1 hx;obtain⟨b,hb,rfl⟩:=List.mem_map.1 hy;exact Qz a b) (enters_of Tryz.func78 (by kernel_rfl) rfl) ((vF l).map λx _ y _=>rfl) (by rw[ak];omega)
end Go.Proofs.YtmaepddmaghpjaaGreatDoor
namespace NP
open NQ Go
def fq(ok:ai->Bool)(better:ai->ai->Bool):Nat->List ai->Option (Nat×ai)->Option (Nat×ai)
 |_,[],b=>b
 |i,p::t,b=>fq ok better (i+1) t (if ok p=true then(match b with|none=>some (i,p)|some x=>if better p x.2=true then some (i,p)else b)else b)
def Pc:Option (Nat×ai)->Int
 |none=> -1
 |some x=>(x.1:Int)
def bN(ok:ai->Bool)(better:ai->ai->Bool)(i:Nat)(p:ai)(b:Option (Nat×ai)):Option (Nat×ai):=if ok p=true then(match b with|none=>some (i,p)|some x=>if better p x.2=true then some (i,p)else b)else b
theorem AX{ok:ai->Bool}{better:ai->ai->Bool}{l:List ai}{k:Nat}{p:ai}(h:l[k]? =some p)(b:Option (Nat×ai)):fq ok better k (l.drop k) b=fq ok better (k+1) (l.drop (k+1)) (bN ok better k p b):=by
 rw[drop_cons h];rfl
def iJ(zs:List ai)(b:Option (Nat×ai)):Prop:= ∀x,b=some x->zs[x.1]? =some x.2
theorem iJ.step{zs:List ai}{b:Option (Nat×ai)}(h:iJ zs b){ok:ai->Bool}{better:ai->ai->Bool}{i:Nat}{p:ai}(hp:zs[i]? =some p):iJ zs (bN ok better i p b):=by
 intro x hx;unfold bN at hx;split at hx
 . split at hx
   . cases hx;exact hp
   . split at hx
     . cases hx;exact hp
     . exact h x hx
 . exact h x hx
theorem zX{zs:List ai}{ok:ai->Bool}{better:ai->ai->Bool}:∀(l:List ai) (i:Nat) (b:Option (Nat×ai)),(∀j,l[j]? =zs[i+j]?)->iJ zs b->iJ zs (fq ok better i l b)
 |[],i,b,_,h=>h
 |p::t,i,b,hl,h=>zX t (i+1) _ (λj=>by have:=hl (j+1);simp at this;rw[this];congr 1;omega) (h.step (by have:=hl 0;simpa using this.symm))
theorem jT{ok:ai->Bool}{better:ai->ai->Bool}:∀(l:List ai) (i:Nat) (b:Option (Nat×ai)),fq ok better i l b=none ↔ (b=none/\ ∀p∈l,ok p=false)
 |[],i,b=>by simp[fq]
 |p::t,i,b=>by
  show fq ok better (i+1) t (bN ok better i p b)=none ↔ _
  rw[jT t];unfold bN;cases hp:ok p <;> cases b <;> simp[hp];intro h;split at h <;> cases h
theorem CY{ok:ai->Bool}{key:ai->Int}:∀(l:List ai) (i:Nat) (b:Option (Nat×ai)) (x:Nat×ai),fq ok (λp q=>decide (key q<key p)) i l b=some x ->
 (b=some x\/(x.2∈l/\ok x.2=true))/\(∀y,b=some y->key y.2<=key x.2)/\ ∀p∈l,ok p=true->key p<=key x.2
 |[],i,b,x,h=>by cases h;exact⟨.inl rfl,λy hy=>by cases hy;exact Int.le_refl _,λp hp=>by cases hp⟩
 |p::t,i,b,x,h=>by
  obtain⟨h1,h2,h3⟩:=CY t (i+1) (bN ok (λp q=>decide (key q<key p)) i p b) x h;unfold bN at h1 h2;by_cases hp:ok p=true
  . rw[if_pos hp]at h1 h2;cases b with
    |none =>
     refine⟨.inr ?_,λy hy=>(by cases hy),λq hq hoq=>?_⟩
     . rcases h1 with h1|h1
       . cases h1;exact⟨List.mem_cons_self .., hp⟩
       . exact⟨aK _ h1.1,h1.2⟩
     . rcases List.mem_cons.1 hq with rfl|hq
       . exact h2 (i,q) rfl
       . exact h3 q hq hoq
    |some y =>
     dsimp only at h1 h2;by_cases hb:key y.2<key p
     . rw[if_pos (decide_eq_true hb)]at h1 h2;have hpx:=h2 (i,p) rfl;refine⟨.inr ?_,λz hz=>by cases hz;dsimp only at hpx;omega,λq hq hoq=>?_⟩
       . rcases h1 with h1|h1
         . cases h1;exact⟨List.mem_cons_self .., hp⟩
         . exact⟨aK _ h1.1,h1.2⟩
       . rcases List.mem_cons.1 hq with rfl|hq
         . exact hpx
         . exact h3 q hq hoq
     . rw[if_neg (by simpa using hb)]at h1 h2;have hyx:=h2 y rfl;refine⟨?_,λz hz=>h2 z hz,λq hq hoq=>?_⟩
       . rcases h1 with h1|h1
         . exact .inl h1
         . exact .inr ⟨aK _ h1.1,h1.2⟩
       . rcases List.mem_cons.1 hq with rfl|hq
         . omega
         . exact h3 q hq hoq
  . rw[if_neg hp]at h1 h2;refine⟨?_,h2,λq hq hoq=>?_⟩
    . rcases h1 with h1|h1
      . exact .inl h1
      . exact .inr ⟨aK _ h1.1,h1.2⟩
    . rcases List.mem_cons.1 hq with rfl|hq
      . exact absurd hoq hp
      . exact h3 q hq hoq
def dP(s:Bs):Int:=((bc s).length:Int)
theorem FE{s:Bs}(h:aq s=true):gp s=dP s:=by unfold gp dP dC;rw[if_pos h]
theorem EZ{s a:Bs}(hs:aq s=true)(ha:aq a=true):(bq s a).1=aD s a:=by unfold bq;rw[if_pos ⟨hs,ha⟩]
theorem yf{s:Bs}(h:aq s=true):s≠[]:=by rintro rfl;revert h;decide
def gV(host:Int)(nm nt:Bs)(p:ai):Bool:= !((decide (host>=0)&&(p.host != host))||(p.zone.apex==nt)|| !aD nm p.zone.apex)
def ov(p:ai):Int:=dP p.zone.apex
def yG(p q:ai):Bool:=decide (ov q<ov p)
def fj(zs:List ai)(host:Int)(nm nt:Bs):Option (Nat×ai):=fq (gV host nm nt) yG 0 zs none
def aY(zs:List ai)(a:Bs):Option (Nat×ai):=fq (λp=>p.zone.apex==a) dK 0 zs none
theorem BN{zs:List ai}{a:Bs}:∀(l:List ai) (i:Nat) (m:List (Bs×Nat)) (b:Option (Nat×ai)),(∀j,l[j]? =zs[i+j]?)->iJ zs b->fH a m=b.map (·.1)->fH a (lA zs i l m)=(fq (λp=>p.zone.apex==a) dK i l b).map (·.1)
 |[],i,m,b,_,_,h=>h
 |p::t,i,m,b,hl,hb,h=>by
  have hp:zs[i]? =some p:=by have:=hl 0;simpa using this.symm
  show fH a (lA zs (i+1) t (if iD zs m p=true then np p.zone.apex i m else m))=(fq (λp=>p.zone.apex==a) dK (i+1) t (bN (λp=>p.zone.apex==a) dK i p b)).map (·.1)
  refine BN t (i+1) _ _ (λj=>by have:=hl (j+1);simp at this;rw[this];congr 1;omega) (hb.step hp) ?_;by_cases ha:p.zone.apex=a
  . have hb' :∀b,bN (λp=>p.zone.apex==a) dK i p b=(match b with|none=>some (i,p)|some x=>if dK p x.2=true then some (i,p)else b):=λb=>by
     unfold bN;exact if_pos (by show(p.zone.apex==a)=true;rw[ha];exact beq_self_eq_true a)
    rw[hb'];cases b with
    |none =>
     have ht:iD zs m p=true:=by unfold iD;rw[ha,h];rfl
     rw[if_pos ht,od,if_pos ha];rfl
    |some x =>
     have hx:=hb x rfl;have ht:iD zs m p=dK p x.2:=by unfold iD;rw[ha,h];simp only[Option.map_some];rw[hx]
     dsimp only;rw[ht];split
     . rw[od,if_pos ha];rfl
     . exact h
  . have hb' :bN (λp=>p.zone.apex==a) dK i p b=b:=by unfold bN;exact if_neg (by simpa using ha)
    rw[hb'];split
    . rw[od,if_neg ha];exact h
    . exact h
theorem MJ(zs:List ai)(a:Bs):fH a (fR zs)=(aY zs a).map (·.1):=BN zs 0 [] none (λj=>by rw[Nat.zero_add]) (λx hx=>by cases hx) rfl
theorem xn(zs:List ai)(a:Bs):iJ zs (aY zs a):=zX zs 0 none (λj=>by rw[Nat.zero_add]) (λx hx=>by cases hx)
theorem Dp(zs:List ai)(h:Int)(nm nt:Bs):iJ zs (fj zs h nm nt):=zX zs 0 none (λj=>by rw[Nat.zero_add]) (λx hx=>by cases hx)
theorem tF{n:Nat}:∀(l seen:List ai),dx n seen l=true->l.Pairwise (λx p=>df p x=false)/\ ∀p∈l,seen.any (df p)=false
 |[],_,_=>⟨List.Pairwise.nil,λp hp=>by cases hp⟩
 |x::t,seen,h=>by
  unfold dx at h;simp only[ay,Bool.not_eq_true',Bool.or_eq_false_iff]at h;obtain⟨h1,h2⟩:=tF t _ h.2;refine⟨List.Pairwise.cons (λp hp=>?_) h1,λp hp=>?_⟩
  . have:=h2 p hp;rw[List.any_append]at this;simp only[Bool.or_eq_false_iff,List.any_cons,List.any_nil,kF]at this;exact this.2
  . rcases List.mem_cons.1 hp with rfl|hp
    . exact h.1.1.2
    . have:=h2 p hp;rw[List.any_append]at this;simp only[Bool.or_eq_false_iff]at this;exact this.1
theorem wV{w:az}(h:aN w=true):w.zones.Pairwise (λx p=>df p x=false):=by
 unfold aN jI at h;simp only[ay]at h;exact(tF _ _ h.1.2.1.2).1
theorem ve:∀{zs:List ai},zs.Pairwise (λx p=>df p x=false)-> ∀{p q:ai},p∈zs->q∈zs->p.host=q.host->p.zone.apex=q.zone.apex->p=q
 |[],_,p,q,hp,_,_,_=>by cases hp
 |x::t,h,p,q,hp,hq,e1,e2=>by
  cases h with|cons h1 h2 =>
  rcases List.mem_cons.1 hp with hp' |hp'
  . rcases List.mem_cons.1 hq with hq' |hq'
    . rw[hp',hq']
    . have:=h1 q hq';rw[<- hp']at this;unfold df at this;simp[e1,e2]at this
  . rcases List.mem_cons.1 hq with hq' |hq'
    . have:=h1 p hp';rw[<- hq']at this;unfold df at this;simp[e1,e2]at this
    . exact ve h2 hp' hq' e1 e2
theorem xH{a b s:Bs}(ha:aD s a=true)(hb:aD s b=true)(h:dP a=dP b):a=b:=by
 have h1:=(dy _ _).1 ha;have h2:=(dy _ _).1 hb;refine sq ?_;have hl:(back a).length=(back b).length:=by
  unfold dP at h;rw[back_eq,back_eq,List.length_reverse,List.length_reverse];omega
 obtain⟨x,hx⟩:=h1;obtain⟨y,hy⟩:=h2;exact(List.append_inj (hx.trans hy.symm) hl).1
def pV(zs:List ai)(K:Int)(q:aR):Option (Nat×ai):=match (if (q.type==6)=true then fj zs K q.name q.name else none)with
 |some x=>some x
 |none=>fj zs K q.name []
def vk(zs:List ai)(K:Int)(q:aR):Ans:=match pV zs K q with
 |none=>⟨7,[],[]⟩
 |some x=>(cn x.2.zone q).1
structure Cr(zs:List ai):Prop where
 valid:∀p∈zs,aq p.zone.apex=true
 pair:zs.Pairwise (λx p=>df p x=false)
theorem sC{zs:List ai}{K:Int}{nm nt:Bs}{x:Nat×ai}(h:fj zs K nm nt=some x):x.2∈zs/\gV K nm nt x.2=true/\ ∀p∈zs,gV K nm nt p=true->ov p<=ov x.2:=by
 obtain⟨h1,_,h3⟩:=CY zs 0 none x h;rcases h1 with h1|h1
 . cases h1
 . exact⟨h1.1,h1.2,h3⟩
theorem gz{K:Int}(hK:0<=K){nm nt:Bs}{p:ai}:gV K nm nt p=true ↔ p.host=K/\p.zone.apex≠nt/\aD nm p.zone.apex=true:=by
 unfold gV;rw[decide_eq_true hK];simp;constructor
 . rintro⟨⟨h1,h2⟩,h3⟩;exact⟨h1,h2,h3⟩
 . rintro⟨h1,h2,h3⟩;exact⟨⟨h1,h2⟩,h3⟩
theorem LC{zs:List ai}(hA:Cr zs){K:Int}{q:aR}(hn:aq q.name=true){z:aF}:z∈cH zs K q ↔ ∃p∈zs,p.host=K/\aD q.name p.zone.apex=true/\p.zone=z:=by
 unfold cH;rw[List.mem_map];constructor
 . rintro⟨p,hp,rfl⟩;obtain⟨h1,h2⟩:=List.mem_filter.1 hp;unfold lY at h2;simp only[ay,decide_eq_true_eq]at h2;exact⟨p,h1,h2.1,(EZ hn (hA.valid p h1)) ▸ h2.2,rfl⟩
 . rintro⟨p,hp,h1,h2,rfl⟩;refine⟨p,List.mem_filter.2 ⟨hp,?_⟩,rfl⟩;unfold lY;simp only[ay,decide_eq_true_eq];exact⟨h1,(EZ hn (hA.valid p hp)).trans h2⟩
theorem IZ{zs:List ai}(hA:Cr zs){K:Int}{q:aR}:(cH zs K q).Pairwise (λa b=>a.apex≠b.apex):=by
 unfold cH;rw[List.pairwise_map];have h:=hA.pair.filter (lY K q);refine List.Pairwise.imp_of_mem ?_ h;intro a b ha hb hab e;have ha' :=(List.mem_filter.1 ha).2;have hb' :=(List.mem_filter.1 hb).2;unfold lY at ha' hb';simp only[ay,decide_eq_true_eq]at ha' hb';unfold df at hab;simp[ha'.1,hb'.1,e]at hab
theorem JG{zs:List ai}(hA:Cr zs){K:Int}(hK:0<=K){q:aR}(hn:aq q.name=true):oO q (de jN (cH zs K q))=(pV zs K q).map λx=>x.2.zone:=by
 have hperm:=gG (vF (cH zs K q));have hsort:=pW (vF (cH zs K q));have hpair:(de jN (cH zs K q)).Pairwise (λa b=>a.apex≠b.apex):=(hperm.pairwise_iff (λ{x y} h=>Ne.symm h)).2 (IZ hA);have hmem:∀z,z∈de jN (cH zs K q) ↔ ∃p∈zs,p.host=K/\aD q.name p.zone.apex=true/\p.zone=z:=λz=>hperm.mem_iff.trans (LC hA hn)
 generalize de jN (cH zs K q)=L at *
 have hdep:∀z∈L,gp z.apex=dP z.apex:=λz hz=>by
  obtain⟨p,hp,_,_,rfl⟩:=(hmem z).1 hz;exact FE (hA.valid p hp)
 have hsrt:∀{z t},L=z::t-> ∀y∈t,dP y.apex<=dP z.apex:=λ{z t} e y hy=>by
  subst e;cases hsort with|cons h1 h2 =>
  have:=h1 y hy;unfold jN at this;rw[hdep z (by simp),hdep y (by simp[hy])]at this;omega
 have one:∀{p p' :ai},p∈zs->p' ∈zs->p.host=K->p'.host=K->aD q.name p.zone.apex=true->aD q.name p'.zone.apex=true->ov p=ov p' ->p=p' :=λhp hp' h1 h2 u1 u2 hk=>ve hA.pair hp hp' (h1.trans h2.symm) (xH u1 u2 hk)
 have ne0:∀p∈zs,p.zone.apex≠[]:=λp hp=>yf (hA.valid p hp)
 unfold pV;cases L with
 |nil =>
  have no:∀nt,fj zs K q.name nt=none:=λnt=>by
   unfold fj;rw[jT];refine⟨rfl,λp hp=>?_⟩;cases hc:gV K q.name nt p with
   |false=>rfl
   |true =>
    obtain⟨h1,h2,h3⟩:=(gz hK).1 hc;have:=(hmem p.zone).2 ⟨p,hp,h1,h3,rfl⟩;cases this
  rw[no,no];simp[oO]
 |cons z t =>
  obtain⟨pz,hpz,hzh,hzu,rfl⟩:=(hmem z).1 (List.mem_cons_self ..);have hmax:∀p∈zs,p.host=K->aD q.name p.zone.apex=true->ov p<=ov pz:=λp hp h1 h2=>by
   have hm:=(hmem p.zone).2 ⟨p,hp,h1,h2,rfl⟩;rcases List.mem_cons.1 hm with e|hm
   . unfold ov;rw[e];exact Int.le_refl _
   . exact hsrt rfl _ hm
  have found:∀nt (p:ai),p∈zs->p.host=K->aD q.name p.zone.apex=true->p.zone.apex≠nt->(∀p' ∈zs,p'.host=K->aD q.name p'.zone.apex=true->p'.zone.apex≠nt->ov p' <=ov p)-> ∃i,fj zs K q.name nt=some (i,p):=λnt p hp h1 h2 h3 hm=>by
   cases hd:fj zs K q.name nt with
   |none =>
    unfold fj at hd;rw[jT]at hd;have:=hd.2 p hp;rw[(gz hK).2 ⟨h1,h3,h2⟩]at this;cases this
   |some x =>
    obtain⟨m1,m2,m3⟩:=sC hd;obtain⟨k1,k2,k3⟩:=(gz hK).1 m2;have g1:=m3 p hp ((gz hK).2 ⟨h1,h3,h2⟩);have g2:=hm x.2 m1 k1 k3 k2;have:p=x.2:=one hp m1 h1 k1 h2 k3 (by omega);exact⟨x.1,by rw[this]⟩
  obtain⟨i0,hi0⟩:=found [] pz hpz hzh hzu (ne0 pz hpz) λp hp h1 h2 _=>hmax p hp h1 h2
  rw[hi0];unfold oO;dsimp only;by_cases h6:(q.type==6)=true
  . rw[if_pos h6,h6,du];by_cases hap:(pz.zone.apex==q.name)=true
    . rw[if_pos hap];have hap' :pz.zone.apex=q.name:=by simpa using hap
      cases t with
      |nil =>
       have:fj zs K q.name q.name=none:=by
        unfold fj;rw[jT];refine⟨rfl,λp hp=>?_⟩;cases hc:gV K q.name q.name p with
        |false=>rfl
        |true =>
         obtain⟨h1,h2,h3⟩:=(gz hK).1 hc;have:=(hmem p.zone).2 ⟨p,hp,h1,h3,rfl⟩;simp only[List.mem_singleton]at this;exact absurd (by rw[this];exact hap') h2
       rw[this];rfl
      |cons y t =>
       obtain⟨py,hpy,hyh,hyu,rfl⟩:=(hmem y).1 (by simp);have hne:py.zone.apex≠q.name:=by
        cases hpair with|cons g1 g2 =>
        have:=g1 py.zone (List.mem_cons_self ..);rw[hap']at this;exact Ne.symm this
       have hsrt2:∀y' ∈t,dP y'.apex<=dP py.zone.apex:=λy' hy' =>by
        cases hsort with|cons g1 g2 =>
        cases g2 with|cons g3 g4 =>
        have:=g3 y' hy';unfold jN at this;rw[hdep py.zone (by simp),hdep y' (by simp[hy'])]at this;omega
       obtain⟨i1,hi1⟩:=found q.name py hpy hyh hyu hne λp hp h1 h2 h3=>by
        have hm:=(hmem p.zone).2 ⟨p,hp,h1,h2,rfl⟩;rcases List.mem_cons.1 hm with e|hm
        . exact absurd (by rw[e];exact hap') h3
        . rcases List.mem_cons.1 hm with e|hm
          . unfold ov;rw[e];exact Int.le_refl _
          . exact hsrt2 _ hm
       rw[hi1];rfl
    . rw[if_neg hap];have hap' :pz.zone.apex≠q.name:=by simpa using hap
      obtain⟨i1,hi1⟩:=found q.name pz hpz hzh hzu hap' λp hp h1 h2 _=>hmax p hp h1 h2
      rw[hi1];rfl
  . rw[if_neg h6];have:(q.type==6)=false:=by simpa using h6
    rw[this,iF];rfl
def fg(l:List ai):List Bs:=l.foldl (λout p=>if out.contains p.zone.apex=true then out else out++[p.zone.apex]) []
theorem wc(l:List ai)(p:ai):fg (l++[p])=if (fg l).contains p.zone.apex=true then fg l else fg l++[p.zone.apex]:=by unfold fg;rw[List.foldl_append];rfl
theorem Ig(l:List ai):(fg l).length<=l.length:=by
 have key:∀(l:List ai) (out:List Bs),(l.foldl (λout p=>if out.contains p.zone.apex=true then out else out++[p.zone.apex]) out).length<=out.length+l.length:=λl=>by
  induction l with
  |nil=>intro out;simp
  |cons p t ih =>
   intro out;refine Nat.le_trans (ih _) ?_;dsimp only;split <;> simp <;> omega
 have:=key l [];rw[List.length_nil,Nat.zero_add]at this;exact this
theorem zx(a:Bs)(v:D):∀m:List (Bs×D),(dB a v m).map (·.1)=if (m.map (·.1)).contains a=true then m.map (·.1)else m.map (·.1)++[a]
 |[]=>by simp[dB]
 |(b,x)::t=>by
  show(if a=b then _ else _::dB a v t).map (·.1)=_
  by_cases h:a=b
  . subst h;simp
  . rw[if_neg h];simp only[List.map_cons,List.contains_cons];rw[zx a v t];have:(a==b)=false:=by simpa using h
    rw[this,dF];split <;> simp
theorem Nq(l:List ai):(apx l).map (·.1)=fg l:=by
 have key:∀(l:List ai) (m:List (Bs×D)),(l.foldl (λm p=>dB p.zone.apex (.bool true) m) m).map (·.1)=l.foldl (λout p=>if out.contains p.zone.apex=true then out else out++[p.zone.apex]) (m.map (·.1)):=λl=>by
  induction l with
  |nil=>intro m;rfl
  |cons p t ih=>intro m;simp only[List.foldl_cons];rw[ih,zx]
 exact key l []
theorem zV(l:List ai):(apx l).length=(fg l).length:=by rw[<- Nq,ak]
def lg(w:az):Bool:=(w.zones.take 21).all (λp=>ib p.zone&&decide (p.zone.apex.length<=100))&&(w.hosts.take 71).all (λh=>decide (h.name.length<=100))&&decide ((w.zones.length:Int)<=20)&&decide ((w.hosts.length:Int)<=70)&&decide ((w.hints.length:Int)<=20)&&decide ((w.anchor.data.length:Int)<=20)
theorem xw{w:az}(h:lg w=true):cA w/\w.hosts.length<=70/\w.zones.length<=20/\w.hints.length<=20:=by
 unfold lg at h;simp only[ay,decide_eq_true_eq,av]at h;obtain⟨⟨⟨⟨⟨h1,h2⟩,h3⟩,h4⟩,h5⟩,h6⟩:=h;have:w.zones.take 21=w.zones:=List.take_of_length_le (by omega);rw[this]at h1;exact⟨⟨by omega,by omega,by omega,λp hp=>(h1 p hp).1⟩,by omega,by omega,by omega⟩
end NP
namespace Go.Proofs.YtmaepddmaghpjaaGreatDoor
open NQ Go NP Go.RowKit
theorem LD(l:List eu)(hl:l.length<=100000):NQ.Fn cx 50 [.slice 3 (l.map dS)] (.d (.bool (kj l))) []:=by
 refine aA aO mixed Tryz.func50 (by kernel_rfl) rfl (ag rfl) ?_;conv=>whnf
 rw[ak];refine ae (λh=>?_) (λh=>?_) <;> (rw[h];conv=>whnf)
 . refine af rfl ?_;show AV.d (D.bool _)=AV.d (D.bool _)
   congr 2
   unfold kj;simp at h;simp;omega
 have hle:kj l=ij [] l:=by unfold kj;simp at h;simp;omega
 rw[hle];refine⟨Nat,λk=>⟨[(0,.d (.slice 3 (l.map dS))),(3,.d (.int .i64 k))],[]⟩,λk=>k<=l.length/\ij ((l.take k).map (·.addr)) (l.drop k)=ij [] l,λk=>l.length-k,
  ⟨0,⟨Nat.zero_le _,rfl⟩,aj.keep ⟨ab,ab,trivial⟩ trivial⟩,λk ⟨hk,hinv⟩=>?_⟩
 conv=>whnf
 refine ae (λh1=>?_) (λh1=>?_) <;> (rw[h1];conv=>whnf)
 . have hlt:k<l.length:=by simpa using h1
   obtain⟨x,hx⟩:∃x,l[k]? =some x:=⟨_,ah hlt⟩
   rw[yO hx]at hinv;refine⟨aw k,dS x,aG hx,?_⟩
   conv=>whnf
   (refine⟨_,_,qf x.name,?_⟩;conv=>whnf)
   cases hv:aq x.name with
   |false =>
    conv=>whnf
    refine af rfl ?_;rw[<- hinv,hv];rfl
   |true =>
    conv=>whnf
    (refine⟨_,_,CK x.name hv,?_⟩;conv=>whnf)
    rw[hv,PR hv]at hinv
    repeat' (first|(refine ae (λh=>?_) (λh=>?_) <;> (rw[h];conv=>whnf))|fail)
    all_goals first
     |(refine af rfl ?_;show AV.d (D.bool false)=AV.d (D.bool _);rw[<- hinv];clear hinv hle;unfold fE;simp_all;done)
     |skip
    all_goals first
     |(refine af rfl ?_;show AV.d (D.bool false)=AV.d (D.bool _);rw[<- hinv];clear hinv hle;unfold fE;simp_all;omega)
     |skip
    refine⟨Nat,λj=>⟨[(0,.d (.slice 3 (l.map dS))),(3,.d (.int .i64 k)),(4,.ptr 4 0),(6,.d (.int .i64 j))],[(4,.box ((dS x).map .d))]⟩,λj=>j<=k/\((l.take j).map (·.addr)).contains x.addr=false,λj=>k-j,
     ⟨0,⟨Nat.zero_le _,rfl⟩,aj.keep ⟨ab,ab,ab,ab,trivial⟩ ⟨ab,trivial⟩⟩,λj ⟨hj,hno⟩=>?_⟩
    conv=>whnf
    refine ae (λh2=>?_) (λh2=>?_) <;> (rw[h2];conv=>whnf)
    . have hjk:j<k:=by simpa using h2
      obtain⟨y,hy⟩:∃y,l[j]? =some y:=⟨_,ah (by omega)⟩
      try (refine⟨(by kernel_rfl:bg _ _=true),?_⟩;conv=>whnf)
      refine⟨aw j,dS y,aG hy,?_⟩
      conv=>whnf
      refine ae (λh3=>?_) (λh3=>?_) <;> (rw[h3];conv=>whnf)
      . refine af rfl ?_;show AV.d (D.bool false)=AV.d (D.bool _)
        have:((l.take k).map (·.addr)).contains x.addr=true:=by
         rw[dw,List.mem_map];exact⟨y,ao (i:=j) (by rw[List.getElem?_take,if_pos hjk];exact hy),by simpa using h3⟩
        rw[<- hinv,this];simp
      . refine⟨j+1,⟨hjk,?_⟩,by(show k-(j+1)<k-j;omega),aj.keep ⟨ab,ab,ab,⟨an (by omega),rfl⟩,trivial⟩ ⟨ab,trivial⟩⟩;rw[bj hy,List.map_append];have h3' :(x.addr==y.addr)=false:=by
         rw[<- Bool.not_eq_true]at h3 ⊢;intro e;apply h3;simp at e ⊢;exact e.symm
        simp only[List.map_cons,List.map_nil];rw[Bool.eq_false_iff]at hno h3' ⊢;simp only[ne_eq,dw,List.mem_append,List.mem_singleton,beq_iff_eq]at hno h3' ⊢;rintro(e|e)
        . exact hno e
        . exact h3' e
    . obtain rfl:j=k:=by simp at h2;omega
      refine⟨j+1,⟨hlt,?_⟩,by(show l.length-(j+1)<l.length-j;omega),aj.keep ⟨ab,⟨an (by omega),rfl⟩,trivial⟩ trivial⟩;rw[bj hx,List.map_append, <- hinv,hno];clear hinv hle;show _=(_&&_&&_)
      unfold fE
      simp_all
      try omega
 . obtain rfl:k=l.length:=by simp at h1;omega
   refine af rfl ?_;rw[<- hinv,List.drop_length];rfl
theorem Ml(s:gx)(hints:List Int)(hl:hints.length<=100000):NQ.Fn cx 51 [.agg (mG s),.slice 1 (hints.map ba)] (.d (.bool (nE s hints))) []:=by
 refine aA aO mixed Tryz.func51 (by kernel_rfl) rfl (ag rfl) ?_;conv=>whnf
 refine⟨Nat,λk=>⟨[(1,.d (.slice 1 (hints.map ba))),(2,.ptr 2 0),(5,.d (.int .i64 k))],[(2,.box ((mG s).map .d))]⟩,λk=>k<=hints.length/\(hints.take k).all fE=true,λk=>hints.length-k,
  ⟨0,⟨Nat.zero_le _,rfl⟩,aj.keep ⟨ab,ab,ab,trivial⟩ ⟨ab,trivial⟩⟩,λk ⟨hk,hall⟩=>?_⟩
 conv=>whnf
 refine ae (λh1=>?_) (λh1=>?_) <;> (rw[h1];conv=>whnf)
 . have hlt:k<hints.length:=by simpa using h1
   obtain⟨x,hx⟩:∃x,hints[k]? =some x:=⟨_,ah hlt⟩
   refine⟨aw k,ba x,aG hx,?_⟩
   conv=>whnf
   have no:fE x=false->nE s hints=false:=λhb=>by
    have:hints.all fE=false:=by
     rw[<- Bool.not_eq_true,av];intro hh;rw[hh x (ao hx)]at hb;cases hb
    unfold nE;rw[this];simp
   refine ae (λh2=>?_) (λh2=>?_) <;> (rw[h2];conv=>whnf)
   . refine af rfl ?_;rw[no (by unfold fE;simp at h2 ⊢;omega)];rfl
   . refine⟨aw k,ba x,aG hx,?_⟩
     conv=>whnf
     refine ae (λh3=>?_) (λh3=>?_) <;> (rw[h3];conv=>whnf)
     . refine af rfl ?_;rw[no (by unfold fE;simp at h2 h3 ⊢;omega)];rfl
     . refine⟨k+1,⟨hlt,?_⟩,by(show hints.length-(k+1)<hints.length-k;omega),aj.keep ⟨ab,ab,⟨an (by omega),rfl⟩,trivial⟩ ⟨ab,trivial⟩⟩;rw[bj hx,List.all_append,hall];simp at h2 h3;simp[fE];omega
 . obtain rfl:k=hints.length:=by simp at h1;omega
   rw[List.take_length]at hall
   (refine⟨_,_,EO s,?_⟩;conv=>whnf)
   repeat' (first|(refine ae (λh=>?_) (λh=>?_) <;> (rw[h];conv=>whnf))|fail)
   all_goals (refine af rfl ?_;show AV.d (D.bool _)=AV.d (D.bool _);congr 2;(try simp only[ak]at *);unfold nE;rw[hall];simp only[*, if_true,if_false,aB])
theorem Ih(l:List ai)(hl:l.length<=100000):NQ.Fn cx 53 [.slice 3 (l.map aV)] (.d (.slice 1 ((fg l).map aL))) []:=by
 refine aA aO mixed Tryz.func53 (by kernel_rfl) rfl (ag rfl) ?_;conv=>whnf
 refine⟨Nat,λk=>⟨[(0,.d (.slice 3 (l.map aV))),(3,.own 100),(4,.d (.int .i64 k))],[(100,.row 9 1 ((fg (l.take k)).map aL))]⟩,λk=>k<=l.length,λk=>l.length-k,
  ⟨0,Nat.zero_le _,(aj.ni 3 100 1 9 1 rfl rfl (by decide)).trans (aj.keep ⟨ab,ab,ab,trivial⟩ ⟨ab,trivial⟩)⟩,λk hk=>?_⟩
 conv=>whnf
 refine ae (λh1=>?_) (λh1=>?_) <;> (rw[h1];conv=>whnf)
 . have hlt:k<l.length:=by simpa using h1
   obtain⟨x,hx⟩:∃x,l[k]? =some x:=⟨_,ah hlt⟩
   have hal:(fg (l.take k)).length<=k:=by have:=Ig (l.take k);rw[List.length_take]at this;omega
   generalize hA:fg (l.take k)=A at *
   refine⟨Nat×Bool,λj=>⟨[(0,.d (.slice 3 (l.map aV))),(3,.own 100),(4,.d (.int .i64 k)),(5,.d (.bool j.2)),(6,.d (.int .i64 j.1))],[(100,.row 9 1 (A.map aL))]⟩,λj=>j.1<=A.length/\j.2=(A.take j.1).contains x.zone.apex,λj=>A.length-j.1,
    ⟨(0,false),⟨Nat.zero_le _,rfl⟩,aj.keep ⟨ab,ab,ab,ab,ab,trivial⟩ ⟨⟨by rw[<- hA];rfl,rfl⟩,trivial⟩⟩,λ⟨j,f⟩ ⟨hj,hf⟩=>?_⟩
   dsimp only at hj hf ⊢
   conv=>whnf
   refine ae (λh2=>?_) (λh2=>?_) <;> (rw[h2];conv=>whnf)
   . have hjl:j<A.length:=by simpa using h2
     obtain⟨y,hy⟩:∃y,A[j]? =some y:=⟨_,ah hjl⟩
     (refine⟨(by kernel_rfl:bg _ _=true),?_⟩;conv=>whnf)
     refine ae (λh3=>?_) (λh3=>?_) <;> (rw[h3];conv=>whnf)
     . refine⟨(j+1,true),⟨hjl,?_⟩,by(show A.length-(j+1)<A.length-j;omega),aj.keep ⟨ab,ab,ab,ab,⟨an (by omega),rfl⟩,trivial⟩ ⟨ab,trivial⟩⟩;dsimp only;rw[bj hy,List.contains_append, <- hf,h3];rfl
     . refine⟨aw j,by(show j<(A.map aL).length;rw[ak];exact hjl),?_⟩
       conv=>whnf
       refine⟨aL y,aG hy,?_⟩
       conv=>whnf
       refine⟨aw k,aV x,aG hx,?_⟩
       conv=>whnf
       refine⟨(j+1,y==x.zone.apex),⟨hjl,?_⟩,by(show A.length-(j+1)<A.length-j;omega),aj.keep ⟨ab,ab,ab,ab,⟨an (by omega),rfl⟩,trivial⟩ ⟨ab,trivial⟩⟩;dsimp only;rw[bj hy,List.contains_append, <- hf,h3,dF];simp only[List.contains_cons,List.contains_nil,kF];exact Bool.eq_iff_iff.2 ⟨λh=>by simp at h ⊢;exact h.symm,λh=>by simp at h ⊢;exact h.symm⟩
   . obtain rfl:j=A.length:=by simp at h2;omega
     rw[List.take_length]at hf;refine ae (λh3=>?_) (λh3=>?_) <;> (rw[h3];conv=>whnf)
     . have hc:A.contains x.zone.apex=false:=by rw[<- hf];simpa using h3
       refine⟨aw k,aV x,aG hx,?_⟩
       conv=>whnf
       refine⟨by(show(A.map aL).length+1<=_);simp;omega,by(show((A.map aL).length+1)*16<=_);simp;omega,?_⟩
       conv=>whnf
       refine⟨k+1,hlt,by(show l.length-(k+1)<l.length-k;omega),aj.keep ⟨ab,ab,⟨an (by omega),rfl⟩,trivial⟩ ⟨⟨?_,rfl⟩,trivial⟩⟩;rw[bj hx,wc,hA,if_neg (by rw[hc];simp),List.map_append];rfl
     . have hc:A.contains x.zone.apex=true:=by rw[<- hf];simpa using h3
       refine⟨k+1,hlt,by(show l.length-(k+1)<l.length-k;omega),aj.keep ⟨ab,ab,⟨an (by omega),rfl⟩,trivial⟩ ⟨⟨?_,rfl⟩,trivial⟩⟩;rw[bj hx,wc,hA,if_pos hc];rfl
 . obtain rfl:k=l.length:=by simp at h1;omega
   refine af rfl ?_;rw[List.take_length];rfl
set_option maxHeartbeats 2000000 in
theorem MR(w:az)(h1:w.hosts.length<=100000)(h2:w.zones.length<=100000)(h3:w.hints.length<=100000)(h4:∀p∈w.zones,p.zone.sets.length<=100000):NQ.Fn cx 19 [.agg (aZ w)] (.d (.bool (aN w))) []:=by
 refine aA aO mixed Tryz.func19 (by kernel_rfl) rfl (ag rfl) ?_;conv=>whnf
 (refine⟨_,_,LD w.hosts h1,?_⟩;conv=>whnf)
 cases e1:kj w.hosts with
 |false =>
  conv=>whnf
  refine af rfl ?_;have:aN w=false:=by unfold aN;rw[e1];rfl
  rw[this];rfl
 |true =>
 conv=>whnf
 refine ae (λg0=>?_) (λg0=>?_) <;> (rw[g0];conv=>whnf)
 . refine af rfl ?_;have:aN w=false:=by
    have e3:decide ((w.zones.length:Int)<=4000)=false:=by
     have:=of_decide_eq_true g0;rw[ak]at this;exact decide_eq_false (by omega)
    unfold aN jI;rw[e3];simp
   rw[this];rfl
 (refine⟨_,_,Ml w.anchor w.hints h3,?_⟩;conv=>whnf)
 cases e2:nE w.anchor w.hints with
 |false =>
  conv=>whnf
  refine af rfl ?_;have:aN w=false:=by unfold aN;rw[e2];simp
  rw[this];rfl
 |true =>
 conv=>whnf
 have hyes:aN w=(dx w.hosts.length [] w.zones&&decide (((apx w.zones).length:Int)<=500)):=by
  have e3:(w.zones.length:Int)<=4000:=by
   have:=of_decide_eq_false g0;rw[ak]at this;omega
  unfold aN jI;rw[e1,e2,decide_eq_true e3];simp
 refine⟨Nat,λk=>⟨[(1,.ptr 1 0),(3,.d (.int .i64 k))],[(1,.box ((aZ w).map .d))]⟩,λk=>k<=w.zones.length/\dx w.hosts.length (w.zones.take k) (w.zones.drop k)=dx w.hosts.length [] w.zones,λk=>w.zones.length-k,
  ⟨0,⟨Nat.zero_le _,rfl⟩,aj.keep ⟨ab,ab,trivial⟩ ⟨ab,trivial⟩⟩,λk ⟨hk,hinv⟩=>?_⟩
 conv=>whnf
 refine ae (λg1=>?_) (λg1=>?_) <;> (rw[g1];conv=>whnf)
 . have hlt:k<w.zones.length:=by simpa using g1
   obtain⟨x,hx⟩:∃x,w.zones[k]? =some x:=⟨_,ah hlt⟩
   rw[wm hx]at hinv;refine⟨aw k,aV x,aG hx,?_⟩
   conv=>whnf
   (refine⟨_,_,Mn x.zone (h4 x (ao hx)),?_⟩;conv=>whnf)
   have bad:(decide (x.host<0)||decide (x.host>=(w.hosts.length:Int))||(w.zones.take k).any (df x)|| !aW x.zone)=true->aN w=false:=λhb=>by
    rw[hyes, <- hinv,hb];rfl
   refine ae (λg2=>?_) (λg2=>?_) <;> (rw[g2];conv=>whnf)
   . refine af rfl ?_;rw[bad (by simp_all)];rfl
   refine ae (λg3=>?_) (λg3=>?_) <;> (rw[g3];conv=>whnf)
   . refine af rfl ?_;rw[bad (by simp_all)];rfl
   refine ae (λg4=>?_) (λg4=>?_) <;> (rw[g4];conv=>whnf)
   . refine af rfl ?_;rw[bad (by(try simp only[ak]at *);simp_all)];rfl
   refine⟨Nat,λj=>⟨[(1,.ptr 1 0),(3,.d (.int .i64 k)),(4,.ptr 4 0),(6,.d (.int .i64 j))],[(1,.box ((aZ w).map .d)),(4,.box ((aV x).map .d))]⟩,λj=>j<=k/\(w.zones.take j).any (df x)=false,λj=>k-j,
    ⟨0,⟨Nat.zero_le _,rfl⟩,aj.keep ⟨ab,ab,ab,ab,trivial⟩ ⟨ab,ab,trivial⟩⟩,λj ⟨hj,hno⟩=>?_⟩
   conv=>whnf
   refine ae (λg5=>?_) (λg5=>?_) <;> (rw[g5];conv=>whnf)
   . have hjk:j<k:=by simpa using g5
     obtain⟨y,hy⟩:∃y,w.zones[j]? =some y:=⟨_,ah (by omega)⟩
     (refine⟨(by kernel_rfl:bg _ _=true),?_⟩;conv=>whnf)
     refine⟨aw j,aV y,aG hy,?_⟩
     conv=>whnf
     have next:df x y=false->j+1<=k/\(w.zones.take (j+1)).any (df x)=false:=λhs=>⟨hjk,by rw[bj hy,List.any_append,hno];simp[hs]⟩
     refine ae (λg6=>?_) (λg6=>?_) <;> (rw[g6];conv=>whnf)
     . refine⟨aw j,aV y,aG hy,?_⟩
       conv=>whnf
       refine ae (λg7=>?_) (λg7=>?_) <;> (rw[g7];conv=>whnf)
       . refine af rfl ?_;have:(w.zones.take k).any (df x)=true:=by
          rw[List.any_eq_true];refine⟨y,ao (i:=j) (by rw[List.getElem?_take,if_pos hjk];exact hy),?_⟩;simp at g6 g7;simp[df,g6,g7]
         rw[bad (by rw[this];simp)];rfl
       . exact⟨j+1,next (by unfold df;simp at g7;rw[Bool.and_eq_false_iff];right;simp;exact λe=>g7 e.symm),by(show k-(j+1)<k-j;omega),aj.keep ⟨ab,ab,ab,⟨an (by omega),rfl⟩,trivial⟩ ⟨ab,ab,trivial⟩⟩
     . exact⟨j+1,next (by unfold df;simp at g6;rw[Bool.and_eq_false_iff];left;simp;exact λe=>g6 e.symm),by(show k-(j+1)<k-j;omega),aj.keep ⟨ab,ab,ab,⟨an (by omega),rfl⟩,trivial⟩ ⟨ab,ab,trivial⟩⟩
   . obtain rfl:j=k:=by simp at g5;omega
     refine⟨j+1,⟨hlt,?_⟩,by(show w.zones.length-(j+1)<w.zones.length-j;omega),aj.keep ⟨ab,⟨an (by omega),rfl⟩,trivial⟩ ⟨ab,trivial⟩⟩;rw[bj hx, <- hinv];clear hinv hyes bad;have e1:decide (x.host<0)=false:=g3;have e2:decide (x.host>=(w.hosts.length:Int))=false:=by(try simp only[ak]at g4);exact g4
     have e3:(!aW x.zone)=false:=g2;rw[e1,e2,e3,hno];simp
 . obtain rfl:k=w.zones.length:=by simp at g1;omega
   (refine⟨_,_,Ih w.zones h2,?_⟩;conv=>whnf)
   refine af rfl ?_;show AV.d (D.bool _)=AV.d (D.bool _)
   congr 2
   rw[List.drop_length]at hinv;rw[hyes, <- hinv,zV];simp[dx]
def IQ:Nat->List Nat:=fun|7=>[55555]|12=>[55555]|_=>[]
theorem Bf(w:az)(hz:(w.zones.take 21).all (λp=>ib p.zone&&decide (p.zone.apex.length<=100))=true)(hh:(w.hosts.take 71).all (λh=>decide (h.name.length<=100))=true)(st:St)(hs:aj cx st ⟨[(1,.ptr 1 0)],[(1,.box ((aZ w).map .d))]⟩) :
 vc cx Tryz.f18.ntmps IQ (Ke 3 ((Tryz.f18.body).getD .skip)) (fnQ cx Tryz.f18.results.toList (.d (.bool (lg w))) []) st:=by
 conv=>whnf
 refine⟨_,hs,?_⟩
 conv=>whnf
 have e:lg w=(decide ((w.zones.length:Int)<=20)&&decide ((w.hosts.length:Int)<=70)&&decide ((w.hints.length:Int)<=20)&&decide ((w.anchor.data.length:Int)<=20)):=by
  unfold lg;rw[hz,hh];rfl
 repeat' (first|(refine ae (λh=>?_) (λh=>?_) <;> (rw[h];conv=>whnf))|fail)
 all_goals (refine af rfl ?_;show AV.d (D.bool _)=AV.d (D.bool _);congr 2;(try simp only[ak]at *);rw[e];simp only[*, if_true,if_false,aB])
theorem Du(w:az)(hz:(w.zones.take 21).all (λp=>ib p.zone&&decide (p.zone.apex.length<=100))=true)(st:St)(hs:aj cx st ⟨[(1,.ptr 1 0)],[(1,.box ((aZ w).map .d))]⟩) :
 vc cx Tryz.f18.ntmps IQ (Ke 2 ((Tryz.f18.body).getD .skip)) (fnQ cx Tryz.f18.results.toList (.d (.bool (lg w))) []) st:=by
 conv=>whnf
 refine⟨_,hs,?_⟩
 conv=>whnf
 refine⟨Nat,λk=>⟨[(1,.ptr 1 0),(5,.d (.int .i64 k))],[(1,.box ((aZ w).map .d))]⟩,λk=>k<=w.hosts.length/\k<=71/\(w.hosts.take k).all (λh=>decide (h.name.length<=100))=true,λk=>w.hosts.length-k,
  ⟨0,⟨Nat.zero_le _,Nat.zero_le _,rfl⟩,aj.keep ⟨ab,ab,trivial⟩ ⟨ab,trivial⟩⟩,λk ⟨hk,hk2,hall⟩=>?_⟩
 conv=>whnf
 refine ae (λg1=>?_) (λg1=>?_) <;> (rw[g1];conv=>whnf)
 . have hlt:k<w.hosts.length:=by simpa using g1
   obtain⟨x,hx⟩:∃x,w.hosts[k]? =some x:=⟨_,ah hlt⟩
   refine ae (λg2=>?_) (λg2=>?_) <;> (rw[g2];conv=>whnf)
   . have hk3:k<71:=by simp at g2;omega
     refine⟨aw k,dS x,aG hx,?_⟩
     conv=>whnf
     refine ae (λg4=>?_) (λg4=>?_) <;> (rw[g4];conv=>whnf)
     . refine af rfl ?_;have:(w.hosts.take 71).all (λh=>decide (h.name.length<=100))=false:=by
        rw[<- Bool.not_eq_true,av];intro h;have:=h x (ao (i:=k) (by rw[List.getElem?_take,if_pos hk3];exact hx));simp at g4 this;omega
       have:lg w=false:=by unfold lg;rw[this];simp
       rw[this];rfl
     . refine⟨k+1,⟨hlt,by omega,?_⟩,by(show w.hosts.length-(k+1)<w.hosts.length-k;omega),aj.keep ⟨ab,⟨an (by omega),rfl⟩,trivial⟩ ⟨ab,trivial⟩⟩;rw[bj hx,List.all_append,hall];simp at g4;simp;omega
   . have:k=71:=by simp at g2;omega
     subst this;exact Bf w hz hall _ (aj.keep ⟨ab,trivial⟩ ⟨ab,trivial⟩)
 . obtain rfl:k=w.hosts.length:=by simp at g1;omega
   exact Bf w hz (by rw[List.take_length]at hall;rw[List.take_of_length_le hk2];exact hall) _ (aj.keep ⟨ab,trivial⟩ ⟨ab,trivial⟩)
theorem QM(w:az):NQ.Fn cx 18 [.agg (aZ w)] (.d (.bool (lg w))) []:=by
 refine cC IQ aO mixed Tryz.func18 (by kernel_rfl) rfl (ag rfl) ?_
 conv=>whnf
 refine⟨Nat,λk=>⟨[(1,.ptr 1 0),(3,.d (.int .i64 k))],[(1,.box ((aZ w).map .d))]⟩,λk=>k<=w.zones.length/\k<=21/\(w.zones.take k).all (λp=>ib p.zone&&decide (p.zone.apex.length<=100))=true,λk=>w.zones.length-k,
  ⟨0,⟨Nat.zero_le _,Nat.zero_le _,rfl⟩,aj.keep ⟨ab,ab,trivial⟩ ⟨ab,trivial⟩⟩,λk ⟨hk,hk2,hall⟩=>?_⟩
 conv=>whnf
 have no:∀p,w.zones[k]? =some p->k<21->(ib p.zone&&decide (p.zone.apex.length<=100))=false->lg w=false:=λp hp hk hb=>by
  have:(w.zones.take 21).all (λp=>ib p.zone&&decide (p.zone.apex.length<=100))=false:=by
   rw[<- Bool.not_eq_true,av];intro h;rw[h p (ao (i:=k) (by rw[List.getElem?_take,if_pos hk];exact hp))]at hb;cases hb
  unfold lg;rw[this];simp
 refine ae (λg1=>?_) (λg1=>?_) <;> (rw[g1];conv=>whnf)
 . have hlt:k<w.zones.length:=by simpa using g1
   obtain⟨x,hx⟩:∃x,w.zones[k]? =some x:=⟨_,ah hlt⟩
   refine ae (λg2=>?_) (λg2=>?_) <;> (rw[g2];conv=>whnf)
   . have hk3:k<21:=by simp at g2;omega
     refine⟨aw k,aV x,aG hx,?_⟩
     conv=>whnf
     (refine⟨_,_,Sq x.zone,?_⟩;conv=>whnf)
     refine ae (λg3=>?_) (λg3=>?_) <;> (rw[g3];conv=>whnf)
     . refine af rfl ?_;rw[no x hx hk3 (by simp_all)];rfl
     refine⟨aw k,aV x,aG hx,?_⟩
     conv=>whnf
     refine ae (λg4=>?_) (λg4=>?_) <;> (rw[g4];conv=>whnf)
     . refine af rfl ?_;rw[no x hx hk3 (by simp at g4;simp;omega)];rfl
     . refine⟨k+1,⟨hlt,by omega,?_⟩,by(show w.zones.length-(k+1)<w.zones.length-k;omega),aj.keep ⟨ab,⟨an (by omega),rfl⟩,trivial⟩ ⟨ab,trivial⟩⟩;rw[bj hx,List.all_append,hall];simp at g3 g4;simp[g3];omega
   . have:k=21:=by simp at g2;omega
     subst this;exact Du w hall _ (aj.keep ⟨ab,trivial⟩ ⟨ab,trivial⟩)
 . obtain rfl:k=w.zones.length:=by simp at g1;omega
   exact Du w (by rw[List.take_length]at hall;rw[List.take_of_length_le hk2];exact hall) _ (aj.keep ⟨ab,trivial⟩ ⟨ab,trivial⟩)
end Go.Proofs.YtmaepddmaghpjaaGreatDoor
namespace NP
open NQ Go
theorem JR{zs:List ai}{K:Int}{q:aR}{x:Nat×ai}(hK:0<=K)(h:pV zs K q=some x):zs[x.1]? =some x.2/\x.2∈zs/\x.2.host=K/\aD q.name x.2.zone.apex=true:=by
 have key:∀nt,fj zs K q.name nt=some x->zs[x.1]? =some x.2/\x.2∈zs/\x.2.host=K/\aD q.name x.2.zone.apex=true:=λnt hd=>by
  obtain⟨h1,h2,_⟩:=sC hd;obtain⟨k1,_,k3⟩:=(gz hK).1 h2;exact⟨Dp _ _ _ _ x hd,h1,k1,k3⟩
 unfold pV at h;split at h
 . rename_i y hy;cases h;split at hy
   . exact key _ hy
   . cases hy
 . exact key _ h
theorem Np{z:aF}{q:aR}(u:Use z q):(cn z q).2=0:=by rw[u.ans]
theorem KJ{w:az}{q:aR}(hval:aN w=true)(hF:cA w)(hq:bK q=true){K:Int}(hK:0<=K) :
 (match oO q (de jN (cH w.zones K q))with|none=>((⟨7,[],[]⟩:Ans),(0:Int))|some z=>cn z q)=(vk w.zones K q,0):=by
 have hg:=bB hval;have hA:Cr w.zones:=⟨λp hp=>(bA (hg p hp).1).apex,wV hval⟩
 rw[JG hA hK (JH hq)];unfold vk;cases h:pV w.zones K q with
 |none=>rfl
 |some x =>
  obtain⟨h1,h2,h3,h4⟩:=JR hK h;have u:Use x.2.zone q:=⟨hF.few _ h2,(hg _ h2).1,hq,h4⟩
  exact Prod.ext rfl (Np u)
end NP
namespace Go.Proofs.YtmaepddmaghpjaaGreatDoor
open NQ Go NP Go.RowKit
end Go.Proofs.YtmaepddmaghpjaaGreatDoor
namespace NP
open NQ Go
theorem Ga{p q:ai}(hp:aW p.zone=true)(hq:aW q.zone=true):dK p q=(decide (gj p.zone>gj q.zone)||(decide (gj p.zone=gj q.zone)&&decide (p.host<q.host))):=by
 unfold dK dV;rw[hp,hq];rfl
theorem vr(zs : List ai)(q : aR)(f : Nat)(a : Bs) : iV zs (fR zs) q (f + 1) a = match aY zs a with
  |none=>(je,false)
  |some x=>if ((cn x.2.zone q).1.kind != 4)=true then((cn x.2.zone q).1,true)else iV zs (fR zs) q f (cn x.2.zone q).1.cut:=by
 rw[iV,MJ];cases h:aY zs a with
 |none=>rfl
 |some x =>
  simp only[Option.map_some];rw[xn zs a x h]
end NP
namespace Go.Proofs.YtmaepddmaghpjaaGreatDoor
open NQ Go NP Go.RowKit
theorem Dh(zs:List ai)(a:Bs)(hz:∀p∈zs,aW p.zone=true)(hl:zs.length<=100000):NQ.Fn cx 13 [.slice 3 (zs.map aV),.str a] (.d (.int .i64 (Pc (aY zs a)))) []:=by
 refine aA aO mixed Tryz.func13 (by kernel_rfl) rfl (ag rfl) ?_;conv=>whnf
 refine⟨Nat×Option (Nat×ai),λx=>⟨[(0,.d (.slice 3 (zs.map aV))),(1,.d (.str a)),(5,.d (.int .i64 (Pc x.2))),(6,.d (.int .i64 x.1))],[]⟩,
  λx=>x.1<=zs.length/\iJ zs x.2/\fq (λp=>p.zone.apex==a) dK x.1 (zs.drop x.1) x.2=aY zs a,λx=>zs.length-x.1,
  ⟨(0,none),⟨Nat.zero_le _,(λx hx=>by cases hx),rfl⟩,aj.keep ⟨ab,ab,ab,ab,trivial⟩ trivial⟩,λ⟨k,b⟩ ⟨hk,hb,hinv⟩=>?_⟩
 dsimp only at hk hb hinv ⊢
 conv=>whnf
 refine ae (λh1=>?_) (λh1=>?_) <;> (rw[h1];conv=>whnf)
 . have hlt:k<zs.length:=by simpa using h1
   obtain⟨p,hp⟩:∃p,zs[k]? =some p:=⟨_,ah hlt⟩
   have hpv:=hz p (ao hp);rw[AX hp]at hinv;have next:∀b',b' =bN (λp=>p.zone.apex==a) dK k p b->(k+1<=zs.length/\iJ zs b' /\fq (λp=>p.zone.apex==a) dK (k+1) (zs.drop (k+1)) b' =aY zs a):=λb' e=>by
    rw[e];exact⟨hlt,hb.step hp,hinv⟩
   refine⟨aw k,aV p,aG hp,?_⟩
   conv=>whnf
   refine ae (λh2=>?_) (λh2=>?_) <;> (rw[h2];conv=>whnf)
   . exact⟨(k+1,b),next _ (by unfold bN;rw[if_neg (by simpa using h2)]),by(show zs.length-(k+1)<zs.length-k;omega),aj.keep ⟨ab,ab,ab,⟨an (by omega),rfl⟩,trivial⟩ trivial⟩
   have ha:(p.zone.apex==a)=true:=by simpa using h2
   cases b with
   |none =>
    conv=>whnf
    exact⟨(k+1,some (k,p)),next _ (by unfold bN;rw[if_pos ha]),by(show zs.length-(k+1)<zs.length-k;omega),aj.keep ⟨ab,ab,ab,⟨an (by omega),rfl⟩,trivial⟩ trivial⟩
   |some x =>
    have hx:=hb x rfl;have hxv:=hz x.2 (ao hx);have hnew:=Ga hpv hxv
    conv=>whnf
    refine⟨aw k,aV p,aG hp,?_⟩
    conv=>whnf
    (refine⟨_,_,wP p.zone hpv,?_⟩;conv=>whnf)
    refine⟨aw x.1,aV x.2,aG hx,?_⟩
    conv=>whnf
    (refine⟨_,_,wP x.2.zone hxv,?_⟩;conv=>whnf)
    (refine⟨(by kernel_rfl:bg _ _=true),?_⟩;conv=>whnf)
    repeat' (first
     |(refine ae (λh=>?_) (λh=>?_) <;> (rw[h];conv=>whnf))
     |(refine⟨aw k,aV p,aG hp,?_⟩;conv=>whnf)
     |(refine⟨aw x.1,aV x.2,aG hx,?_⟩;conv=>whnf)
     |fail)
    all_goals first
     |(refine⟨(k+1,some (k,p)),next _ (by unfold bN;rw[if_pos ha];dsimp only;rw[if_pos (by rw[hnew];simp_all;done)]),by(show zs.length-(k+1)<zs.length-k;omega),aj.keep ⟨ab,ab,ab,⟨an (by omega),rfl⟩,trivial⟩ trivial⟩;done)
     |(refine⟨(k+1,some x),next _ (by unfold bN;rw[if_pos ha];dsimp only;rw[if_neg (by rw[hnew];simp_all;done)]),by(show zs.length-(k+1)<zs.length-k;omega),aj.keep ⟨ab,ab,ab,⟨an (by omega),rfl⟩,trivial⟩ trivial⟩;done)
     |(refine⟨(k+1,some x),next _ (by unfold bN;rw[if_pos ha];dsimp only;rw[if_neg (by rw[hnew];simp_all;omega)]),by(show zs.length-(k+1)<zs.length-k;omega),aj.keep ⟨ab,ab,ab,⟨an (by omega),rfl⟩,trivial⟩ trivial⟩;done)
 . obtain rfl:k=zs.length:=by simp at h1;omega
   refine af rfl ?_;rw[<- hinv,List.drop_length];rfl
def td(i:Nat):Code->Option (Array Oper)
 | .region id ops _=>(match Nat.beq id i with|true=>some ops|false=>none)
 | .seq a b=>(match td i a with|some x=>some x|none=>td i b)
 | .cond _ a b=>(match td i a with|some x=>some x|none=>td i b)
 | .block _ b=>td i b
 | .loop b=>td i b
 | .rangeFunc _ _ _ b=>none
 |_=>none
def Nt(q:aR)(l:List aF):St:=⟨[(5,.d (.ptr (cL q))),(6,.ptr 100006 0),(9,.ptr 100009 0)],[(100006,.box [.d (.int .i64 0),.nil 5,.d (.str [])]),(100009,.box [.own 200]),(200,.row 45 2 (l.map aT))]⟩
theorem Nu(q:aR)(l l' :List aF)(ops:Array Oper)(ho:td 12 ((Tryz.f37.body).getD .skip)=some ops)(Q:St->Prop)(h:FnR xt 77 false 45 2 (l.map aT) false [.fn 78 [] []] (l'.map aT))(hk:∀st,aj xt st (Nt q l')->Q st) :
 lh xt Tryz.f37.ntmps [55555] ops false Q (Nt q l):=by
 conv at ho=>lhs;whnf
 cases ho
 conv=>whnf
 exact⟨_,h,hk _ (aj.keep ⟨ab,ab,ab,trivial⟩ ⟨ab,ab,ab,trivial⟩)⟩
set_option maxHeartbeats 1000000 in
theorem RX(w:az)(a:Int)(q:aR)(hF:cA w):NQ.Fn cx 37 [.agg (aZ w),.int .i64 a,.agg (cL q)] (.tuple [.agg ((gR (ml w a q).1).map .d),.d (.int .i64 (ml w a q).2)]) []:=by
 show NQ.Fn xt _ _ _ _
 refine uH (fun|3=>[4]|7=>[5,8]|12=>[55555]|13=>[55555]|_=>[]) TH Rr Tryz.func37 (by kernel_rfl) rfl (ag rfl) ?_
 conv=>whnf
 (refine⟨_,_,vA w (by have:=hF.hosts;omega) (by have:=hF.zones;omega) (by have:=hF.hints;omega),?_⟩;conv=>whnf)
 have bad:(aN w&&bK q)=false->ml w a q=(je,1):=λh=>by unfold ml;rw[if_pos h]
 repeat' (first|(refine⟨_,_,BV q,?_⟩;conv=>whnf)|(refine ae (λh=>?_) (λh=>?_) <;> (rw[h];conv=>whnf))|fail)
 . refine af rfl ?_;rw[bad (by simp_all)];rfl
 . refine af rfl ?_;rw[bad (by simp_all)];rfl
 have hval:aN w=true:=by simpa using ‹(!aN w)=false›
 have hq:bK q=true:=by simpa using ‹(!bK q)=false›
 have hask:ml w a q=if hX w.hosts a<0 then(je,4)else match oO q (de jN (cH w.zones (hX w.hosts a) q))with
  |none=>(⟨7,[],[]⟩,0)
  |some z=>cn z q:=by unfold ml;exact if_neg (by rw[hval,hq];simp)
 (refine⟨_,_,Jc w.hosts (λh=>h.addr==a) (.ptr [.int .i64 a]) (by have:=hF.hosts;omega) (λh _=>Qy h a),?_⟩;conv=>whnf)
 refine ae (λh1=>?_) (λh1=>?_) <;> (rw[h1];conv=>whnf)
 . have h1' :hX w.hosts a<0:=of_decide_eq_true h1;refine af rfl ?_;rw[hask,if_pos h1'];rfl
 rw[if_neg (of_decide_eq_false h1:¬hX w.hosts a<0)]at hask
 (refine⟨_,_,KV w _ _,?_⟩;conv=>whnf)
 generalize hK:hX w.hosts a=K at *
 have hzl:(cH w.zones K q).length<=1000:=by
  unfold cH;rw[ak];have:=List.length_filter_le (lY K q) w.zones;have:=hF.zones;omega
 refine⟨119,_,As _,[(5,.d (.ptr (cL q))),(6,.ptr 100006 0),(9,.ptr 100009 0),(31,.d (.fn 119 [] [.ptr (aZ w),.ptr [.fn 75 [] [.ptr [.int .i64 K],.ptr (cL q)]]]))],
  Unit,(),λ(k:Nat) _=>[(100006,.box [.d (.int .i64 0),.nil 5,.d (.str [])]),(100009,.box [.own 200]),(200,.row 45 2 (((cH w.zones K q).take k).map aT))],[100006,100009],λ_ _=>True,
  (aj.zero (aj.oP 9 0 200 2 [.nil 2] 45 2 (by kernel_rfl) rfl (by kernel_rfl) (by decide))).trans ((gy.ren [6,9] (by kernel_rfl)).trans (aj.zero (aj.keep ⟨⟨(by kernel_rfl),(by kernel_rfl)⟩,⟨(by kernel_rfl),(by kernel_rfl)⟩,⟨(by kernel_rfl),(by kernel_rfl)⟩,⟨(by kernel_rfl),(by kernel_rfl)⟩,trivial⟩ ⟨⟨(by kernel_rfl),(by kernel_rfl)⟩,⟨(by kernel_rfl),(by kernel_rfl)⟩,⟨(by kernel_rfl),(by kernel_rfl)⟩,trivial⟩))),
  ⟨rfl,Df w 75 (.ptr [.int .i64 K]) (.ptr (cL q)) (lY K q) (λp _=>Ns K q p) rfl (by have:=hF.zones;omega),?_,rfl,rfl⟩,⟨ag rfl,?_,rfl,by kernel_rfl⟩,trivial,?_,λkf _ hkf _=>?_⟩
 . intro k x k' hx;exact Lv _ _ _ x (ao hx.1)
 . intro r hr;rcases List.mem_cons.1 hr with rfl|hr
   . exact⟨by omega,_,rfl,rfl⟩
   . rcases List.mem_cons.1 hr with rfl|hr
     . exact⟨by omega,_,rfl,rfl⟩
     . cases hr
 . rintro k x k' _ ⟨hx,rfl⟩ _;obtain⟨i,p,rfl,hp⟩:=sJ _ _ _ k x hx;have hz:(cH w.zones K q)[k]? =some p.zone:=by unfold cH;rw[aM,hp];rfl
   have hkl:k<(cH w.zones K q).length:=(ar.1 hz).1
   conv=>whnf
   refine⟨by(show(((cH w.zones K q).take k).map aT).length+1<=_);simp;omega,by(show((((cH w.zones K q).take k).map aT).length+1)*40<=_);simp;omega,?_⟩
   conv=>whnf
   refine⟨(),⟨?_,λr hr=>?_⟩,trivial⟩
   . show aj xt _ ⟨[],[(100006,.box [.d (.int .i64 0),.nil 5,.d (.str [])]),(100009,.box [.own 200]),(200,.row 45 2 (((cH w.zones K q).take (k+1)).map aT))]⟩
     rw[bj hz,List.map_append];exact aj.keep trivial ⟨⟨(by kernel_rfl),(by kernel_rfl)⟩,⟨(by kernel_rfl),(by kernel_rfl)⟩,⟨(by kernel_rfl),(by kernel_rfl)⟩,trivial⟩
   . rcases List.mem_cons.1 hr with rfl|hr
     . exact aC.2 ⟨_,aJ ..⟩
     . rcases List.mem_cons.1 hr with rfl|hr
       . exact aC.2 ⟨_,by rw[aS _ _ (by omega),aJ]⟩
       . cases hr
 . obtain rfl:kf=_:=hkf;rw[sK];have:(cH w.zones K q).take (w.zones.filter (lY K q)).length=cH w.zones K q:=List.take_of_length_le (by unfold cH;rw[ak];exact Nat.le_refl _);dsimp only;rw[this];have hperm:=gG (vF (cH w.zones K q))
   conv=>whnf
   refine ae (λh2=>?_) (λh2=>?_) <;> (rw[h2];conv=>whnf)
   . have hnil:cH w.zones K q=[]:=by
      apply List.eq_nil_of_length_eq_zero;have h2' :(((cH w.zones K q).map aT).length:Int)=0:=by simpa using h2
      rw[ak]at h2';omega
     refine af rfl ?_;rw[hask,hnil];rfl
   . have hlen:(de jN (cH w.zones K q)).length=(cH w.zones K q).length:=hperm.length_eq;have hpos:0<(cH w.zones K q).length:=by
      have h2' :¬(((cH w.zones K q).map aT).length:Int)=0:=by simpa using h2
      rw[ak]at h2';omega
     have hmem:∀z∈de jN (cH w.zones K q),ib z=true:=λz hz=>by
      have hz:=hperm.subset hz;unfold cH at hz;obtain⟨p,hp,rfl⟩:=List.mem_map.1 hz;exact hF.few p (List.mem_filter.1 hp).1
     have hS:=λfl=>MB (cH w.zones K q) (by omega) fl
     refine⟨Nt q (cH w.zones K q),aj.keep ⟨⟨(by kernel_rfl),(by kernel_rfl)⟩,⟨(by kernel_rfl),(by kernel_rfl)⟩,⟨(by kernel_rfl),(by kernel_rfl)⟩,trivial⟩ ⟨⟨(by kernel_rfl),(by kernel_rfl)⟩,⟨(by kernel_rfl),(by kernel_rfl)⟩,⟨(by kernel_rfl),(by kernel_rfl)⟩,trivial⟩,?_⟩;generalize de jN (cH w.zones K q)=L at *
     refine Nu q _ L _ (by kernel_rfl) _ (hS _) λst hst=>?_
     conv=>whnf
     refine⟨_,hst,?_⟩;cases L with
     |nil=>simp at hlen;omega
     |cons z t =>
      have hz:=hmem z (List.mem_cons_self ..)
      conv=>whnf
      refine⟨by decide,by(show 0<((z::t).map aT).length);simp,?_⟩
      conv=>whnf
      have one:((q.type==6)&&(z.apex==q.name))=false->ml w a q=cn z q:=λhb=>by rw[hask];unfold oO;dsimp only;rw[hb];rfl
      refine⟨aT z,rfl,?_⟩
      conv=>whnf
      refine ae (λh6=>?_) (λh6=>?_) <;> (rw[h6];conv=>whnf)
      case refine_2 =>
       (refine⟨_,_,mj z q (by have:=(cS hz).1;omega),?_⟩;conv=>whnf)
       refine af rfl ?_;rw[one (by rw[h6];rfl)];rfl
      refine ae (λha=>?_) (λha=>?_) <;> (rw[ha];conv=>whnf)
      case refine_2 =>
       (refine⟨_,_,mj z q (by have:=(cS hz).1;omega),?_⟩;conv=>whnf)
       refine af rfl ?_;rw[one (by rw[ha];simp)];rfl
      refine ae (λhl=>?_) (λhl=>?_) <;> (rw[hl];conv=>whnf)
      case refine_2 =>
       have ht:t=[]:=by
        cases t with
        |nil=>rfl
        |cons y t=>exfalso;have:=of_decide_eq_false hl;simp at this;omega
       subst ht
       (refine⟨_,_,mj z q (by have:=(cS hz).1;omega),?_⟩;conv=>whnf)
       refine af rfl ?_;have e:ml w a q=cn z q:=by
        rw[hask];unfold oO;dsimp only;have h6' :(q.type==6)=true:=h6;have ha' :(z.apex==q.name)=true:=ha;rw[h6',ha'];rfl
       rw[e];rfl
      cases t with
      |nil=>exfalso;have:=of_decide_eq_true hl;simp at this
      |cons y t =>
       have hy:=hmem y (aK _ (List.mem_cons_self ..));refine⟨by decide,by(show 1<((z::y::t).map aT).length;simp),?_⟩
       conv=>whnf
       refine⟨aT y,rfl,?_⟩
       conv=>whnf
       (refine⟨_,_,mj y q (by have:=(cS hy).1;omega),?_⟩;conv=>whnf)
       refine af rfl ?_;have e:ml w a q=cn y q:=by
        rw[hask];unfold oO;dsimp only;have h6' :(q.type==6)=true:=h6;have ha' :(z.apex==q.name)=true:=ha;rw[h6',ha'];rfl
       rw[e];rfl
end Go.Proofs.YtmaepddmaghpjaaGreatDoor
namespace NP
open NQ Go
def Kr(w:az)(l:List ai):az:=⟨w.hosts,l,w.anchor,w.hints⟩
theorem RW{w:az}{q:aR}{a:Int}(hval:aN w=true)(hq:bK q=true)(hF:cA w):ml w a q=if hX w.hosts a<0 then(je,4)else(vk w.zones (hX w.hosts a) q,0):=by
 unfold ml;rw[if_neg (by rw[hval,hq];simp)];split
 . rfl
 . rename_i h;exact KJ hval hF hq (by omega)
end NP
namespace Go.Proofs.YtmaepddmaghpjaaGreatDoor
open NQ Go NP Go.RowKit
theorem qJ(w:az)(hF:cA w):NQ.Fn cx 20 [.agg (aZ w)] (.d (.bool (aN w))) []:=vA w (by have:=hF.hosts;omega) (by have:=hF.zones;omega) (by have:=hF.hints;omega)
theorem Km(w:az)(hF:cA w):NQ.Fn cx 19 [.agg (aZ w)] (.d (.bool (aN w))) []:=MR w (by have:=hF.hosts;omega) (by have:=hF.zones;omega) (by have:=hF.hints;omega) (λp hp=>by have:=(cS (hF.few p hp)).1;omega)
end Go.Proofs.YtmaepddmaghpjaaGreatDoor
namespace NP
open NQ Go
theorem rF{zs:List ai}(hg:mg zs):∀(f:Nat) (q:aR) (kept:List Signed),bK q=true->(∀s∈kept,∃p∈zs,s∈p.zone.sets) ->
 (∀s∈(gP zs f q kept).1.sets,∃p∈zs,s∈p.zone.sets)/\(gP zs f q kept).1.sets.length<=kept.length+f+1000
 |0,q,kept,_,_=>⟨λs hs=>(by cases hs),by simp[gP,je]⟩
 |f+1,q,kept,hq,hk=>by
  unfold gP;cases hok:(dD zs q).2 with
  |false=>exact⟨λs hs=>(by cases hs),by simp[je]⟩
  |true =>
   rw[if_neg (by simp)];obtain⟨p,hpm,u,hpa,hp4⟩:=vi hg hq (x:=(dD zs q).1) (by rw[<- hok]);split
   . refine⟨λs hs=>?_,?_⟩
     . rcases List.mem_append.1 hs with hs|hs
       . exact hk s hs
       . rw[hpa]at hs;exact⟨p,hpm,Qs u.few q s hs⟩
     . have:=GF u.few q;show(kept++(dD zs q).1.sets).length<=_
       rw[List.length_append,hpa];omega
   . rename_i h2;have hk3:(cn p.zone q).1.kind=3:=by rw[<- hpa];simpa using h2
     obtain⟨s,R,d,hs,hsm,hst,hsd,hdv⟩:=u.Kz hk3;rw[<- hpa]at hs;rw[hs];simp only[List.head?_cons,hsd];have:=rF hg f ⟨d.text,q.type⟩ (kept++[s]) (by
      unfold bK at hq ⊢;simp only[ay]at hq ⊢;exact⟨⟨hdv,hq.1.2⟩,hq.2⟩) λx hx=>by
       rcases List.mem_append.1 hx with hx|hx
       . exact hk x hx
       . rw[List.mem_singleton]at hx;subst hx;exact⟨p,hpm,hsm⟩
     refine⟨this.1,?_⟩;have h:=this.2;rw[List.length_append,List.length_singleton]at h;omega
structure RU(a:Ans):Prop where
 len:a.sets.length<=100000
 small:∀s∈a.sets,s.set.data.length<=100000/\s.sigs.length<=100000
theorem nH{w:az}(hF:cA w)(q:aR):RU (dA w q).1:=by
 unfold dA;split
 . exact⟨by decide,λs hs=>by cases hs⟩
 . rename_i h;have hv:aN w=true/\bK q=true:=by simpa using h
   have hg:mg w.zones:=λp hp=>⟨hF.few p hp,(bB hv.1 p hp).1⟩
   obtain⟨h1,h2⟩:=rF hg 9 q [] hv.2 (λs hs=>by cases hs);refine⟨by rw[List.length_nil]at h2;omega,λs hs=>?_⟩;obtain⟨p,hp,hm⟩:=h1 s hs;have:=(cS (hF.few p hp)).2 s hm;omega
end NP
namespace Go.Proofs.YtmaepddmaghpjaaGreatDoor
open NQ Go NP Go.RowKit
end Go.Proofs.YtmaepddmaghpjaaGreatDoor
namespace NP
open NQ Go
theorem BO{w:az}{q:aR}(hv:aN w=true)(hq:bK q=true):dA w q=gP w.zones 9 q []:=by unfold dA;rw[if_neg (by rw[hv,hq];simp)]
end NP
namespace Go.Proofs.YtmaepddmaghpjaaGreatDoor
open NQ Go NP Go.RowKit
end Go.Proofs.YtmaepddmaghpjaaGreatDoor
namespace NP
open NQ Go
theorem pt{n:Nat}:∀(l seen:List ai),dx n seen l=true ↔ ((∀p∈l,((decide (p.host<0)||decide (p.host>=(n:Int))|| !aW p.zone)=false)/\seen.any (df p)=false)/\l.Pairwise (λx p=>df p x=false))
 |[],seen=>by simp[dx]
 |x::t,seen=>by
  rw[dx,ay,pt t,List.pairwise_cons];simp only[List.any_append,List.any_cons,List.any_nil,kF,Bool.not_eq_true',List.mem_cons,forall_eq_or_imp];constructor
  . rintro⟨h1,h2,h3⟩;simp only[Bool.or_eq_false_iff]at h1 h2 ⊢;exact⟨⟨⟨⟨h1.1.1,h1.2⟩,h1.1.2⟩,λp hp=>⟨(h2 p hp).1,(h2 p hp).2.1⟩⟩,λp hp=>(h2 p hp).2.2,h3⟩
  . rintro⟨⟨h1,h2⟩,h3,h4⟩;simp only[Bool.or_eq_false_iff]at h1 h2 ⊢;exact⟨⟨⟨h1.1.1,h1.2⟩,h1.1.2⟩,λp hp=>⟨(h2 p hp).1,(h2 p hp).2,h3 p hp⟩,h4⟩
theorem qs{α:Type}[BEq α][LawfulBEq α]:∀{a b:List α},a.Nodup->(∀x∈a,x∈b)->a.length<=b.length
 |[],b,_,_=>Nat.zero_le _
 |x::t,b,hn,hs=>by
  have hx:=hs x (List.mem_cons_self ..);rw[List.nodup_cons]at hn;have:=qs (b:=b.erase x) hn.2 λy hy=>(List.mem_erase_of_ne (λ(e:y=x)=>hn.1 (e ▸ hy))).2 (hs y (aK _ hy))
  rw[List.length_erase_of_mem hx]at this;have h0:0<b.length:=List.length_pos_of_mem hx;rw[List.length_cons];omega
theorem qQ(l:List ai):(fg l).Nodup/\ ∀a,a∈fg l ↔ ∃p∈l,p.zone.apex=a:=by
 have key:∀(l:List ai) (out:List Bs),out.Nodup->(l.foldl (λout p=>if out.contains p.zone.apex=true then out else out++[p.zone.apex]) out).Nodup/\ ∀a,a∈l.foldl (λout p=>if out.contains p.zone.apex=true then out else out++[p.zone.apex]) out ↔ (a∈out\/ ∃p∈l,p.zone.apex=a):=λl=>by
  induction l with
  |nil=>intro out h;exact⟨h,λa=>by simp⟩
  |cons p t ih =>
   intro out h;simp only[List.foldl_cons];by_cases hc:out.contains p.zone.apex=true
   . rw[if_pos hc];obtain⟨h1,h2⟩:=ih out h;refine⟨h1,λa=>?_⟩;rw[h2];have hm:p.zone.apex∈out:=dw.1 hc;constructor
     . rintro(h|⟨q,hq,e⟩)
       . exact .inl h
       . exact .inr ⟨q,aK _ hq,e⟩
     . rintro(h|⟨q,hq,e⟩)
       . exact .inl h
       . rcases List.mem_cons.1 hq with rfl|hq
         . exact .inl (e ▸ hm)
         . exact .inr ⟨q,hq,e⟩
   . rw[if_neg hc];have hm:p.zone.apex ∉ out:=λe=>hc (dw.2 e)
     obtain⟨h1,h2⟩:=ih (out++[p.zone.apex]) (by
      rw[List.nodup_append];exact⟨h,by simp,λa ha b hb=>by rw[List.mem_singleton]at hb;subst hb;exact λe=>hm (e ▸ ha)⟩)
     refine⟨h1,λa=>?_⟩;rw[h2];constructor
     . rintro(h|⟨q,hq,e⟩)
       . rcases List.mem_append.1 h with h|h
         . exact .inl h
         . rw[List.mem_singleton]at h;exact .inr ⟨p,List.mem_cons_self .., h.symm⟩
       . exact .inr ⟨q,aK _ hq,e⟩
     . rintro(h|⟨q,hq,e⟩)
       . exact .inl (List.mem_append.2 (.inl h))
       . rcases List.mem_cons.1 hq with rfl|hq
         . exact .inl (List.mem_append.2 (.inr (by rw[List.mem_singleton];exact e.symm)))
         . exact .inr ⟨q,hq,e⟩
 obtain⟨h1,h2⟩:=key l [] List.nodup_nil;exact⟨h1,λa=>(h2 a).trans (by simp)⟩
theorem Ii{l l' :List ai}(h:∀p∈l',p∈l):(fg l').length<=(fg l).length:=by
 refine qs (qQ l').1 λa ha=>?_
 obtain⟨p,hp,e⟩:=((qQ l').2 a).1 ha;exact((qQ l).2 a).2 ⟨p,h p hp,e⟩
end NP
namespace Go.Proofs.YtmaepddmaghpjaaGreatDoor
open NQ Go NP Go.RowKit
end Go.Proofs.YtmaepddmaghpjaaGreatDoor
namespace NP
open NQ Go
theorem AY{ok:ai->Bool}{better:ai->ai->Bool}(hirr:∀p,better p p=false)(htr:∀p q r,better p q=true->better q r=true->better p r=true):∀(l:List ai) (i:Nat) (b:Option (Nat×ai)) (x:Nat×ai),fq ok better i l b=some x ->
 (b=some x\/(x.2∈l/\ok x.2=true))/\(∀e,(∀y,b=some y->better e y.2=false)->b≠none->better e x.2=false)/\ ∀p∈l,ok p=true->better p x.2=false
 |[],i,b,x,h=>by cases h;exact⟨.inl rfl,λe he _=>he x rfl,λp hp=>by cases hp⟩
 |p::t,i,b,x,h=>by
  have h' :fq ok better (i+1) t (bN ok better i p b)=some x:=h;obtain⟨h1,h2,h3⟩:=AY hirr htr t (i+1) _ x h';by_cases hp:ok p=true
  . cases b with
    |none =>
     have e0:bN ok better i p none=some (i,p):=by unfold bN;rw[if_pos hp]
     rw[e0]at h1 h2;refine⟨.inr ?_,λe he hb=>absurd rfl hb,λq hq hoq=>?_⟩
     . rcases h1 with h1|h1
       . cases h1;exact⟨List.mem_cons_self .., hp⟩
       . exact⟨aK _ h1.1,h1.2⟩
     . rcases List.mem_cons.1 hq with rfl|hq
       . exact h2 q (λy hy=>by cases hy;exact hirr q) (by simp)
       . exact h3 q hq hoq
    |some y =>
     by_cases hbt:better p y.2=true
     . have e0:bN ok better i p (some y)=some (i,p):=by unfold bN;rw[if_pos hp];dsimp only;rw[if_pos hbt]
       rw[e0]at h1 h2;refine⟨.inr ?_,λe he _=>?_,λq hq hoq=>?_⟩
       . rcases h1 with h1|h1
         . cases h1;exact⟨List.mem_cons_self .., hp⟩
         . exact⟨aK _ h1.1,h1.2⟩
       . refine h2 e (λz hz=>?_) (by simp);cases hz;cases hc:better e p with
         |false=>rfl
         |true =>
          have:=htr e p y.2 hc hbt;rw[he y rfl]at this;cases this
       . rcases List.mem_cons.1 hq with rfl|hq
         . exact h2 q (λz hz=>by cases hz;exact hirr q) (by simp)
         . exact h3 q hq hoq
     . have e0:bN ok better i p (some y)=some y:=by unfold bN;rw[if_pos hp];dsimp only;rw[if_neg hbt]
       rw[e0]at h1 h2;refine⟨h1.imp id λh1=>⟨aK _ h1.1,h1.2⟩,λe he hb=>h2 e he hb,λq hq hoq=>?_⟩;rcases List.mem_cons.1 hq with rfl|hq
       . exact h2 q (λz hz=>by cases hz;simpa using hbt) (by simp)
       . exact h3 q hq hoq
  . have e0:bN ok better i p b=b:=by unfold bN;rw[if_neg hp]
    rw[e0]at h1 h2;refine⟨h1.imp id λh1=>⟨aK _ h1.1,h1.2⟩,h2,λq hq hoq=>?_⟩;rcases List.mem_cons.1 hq with rfl|hq
    . exact absurd hoq hp
    . exact h3 q hq hoq
theorem nW(p q:ai):dK p q=true ↔ (dV q.zone).1<(dV p.zone).1\/((dV p.zone).1=(dV q.zone).1/\p.host<q.host):=by
 unfold dK;simp
theorem LX(p:ai):dK p p=false:=by
 rw[<- Bool.not_eq_true,nW];omega
theorem OS(p q r:ai)(h:dK p q=true)(k:dK q r=true):dK p r=true:=by
 rw[nW]at h k ⊢;omega
theorem dG{zs:List ai}{a:Bs}{x:Nat×ai}(h:aY zs a=some x):x.2∈zs/\x.2.zone.apex=a/\ ∀p∈zs,p.zone.apex=a->dK p x.2=false:=by
 obtain⟨h1,_,h3⟩:=AY LX OS zs 0 none x h;rcases h1 with h1|h1
 . cases h1
 . exact⟨h1.1,by simpa using h1.2,λp hp ha=>h3 p hp (by simpa using ha)⟩
theorem ui{zs:List ai}{a:Bs}:aY zs a=none ↔ ∀p∈zs,p.zone.apex≠a:=by
 unfold aY;rw[jT];simp
theorem tK{zs zs' :List ai}(h:∀a,(aY zs a).map (·.2)=(aY zs' a).map (·.2))(q:aR):∀(f:Nat) (a:Bs),iV zs (fR zs) q f a=iV zs' (fR zs') q f a
 |0,a=>rfl
 |f+1,a=>by
  rw[vr,vr];have:=h a;cases hx:aY zs a with
  |none =>
   cases hy:aY zs' a with
   |none=>rfl
   |some y=>rw[hx,hy]at this;cases this
  |some x =>
   cases hy:aY zs' a with
   |none=>rw[hx,hy]at this;cases this
   |some y =>
    rw[hx,hy]at this;have e:x.2=y.2:=Option.some.inj this;dsimp only;rw[e,tK h q f]
theorem tL{zs zs' :List ai}(h:∀a,(aY zs a).map (·.2)=(aY zs' a).map (·.2)):∀(f:Nat) (q:aR) (kept:List Signed),gP zs f q kept=gP zs' f q kept
 |0,q,kept=>rfl
 |f+1,q,kept=>by
  have e:dD zs q=dD zs' q:=tK h q _ _;unfold gP;rw[e];split
  . rfl
  . split
    . rfl
    . cases (dD zs' q).1.sets.head? with
      |none=>rfl
      |some s =>
       dsimp only;cases s.set.data.head? with
       |none=>rfl
       |some d=>exact tL h f _ _
theorem Gr{w w' :az}{q:aR}(hv:aN w=true)(hv' :aN w' =true)(hq:bK q=true)(h:∀a,(aY w.zones a).map (·.2)=(aY w'.zones a).map (·.2)):dA w q=dA w' q:=by
 rw[BO hv hq,BO hv' hq,tL h]
def gi(z:aF):Int:=match z.sets.find? (λs=>s.set.type==4)with|some s=>(match s.set.data[0]? with|some d=>d.n|none=>0)|none=>0
theorem Hs{z:aF}(hv:aW z=true):gi z=gj z:=by
 have V:=dt.1 hv;obtain⟨s,hs,hm,hp⟩:=sI V.ord (q:=⟨z.apex,4⟩) V.ord.apex V.start;have hp4:s.set.type=4:=congrArg Prod.snd hp;have hR:RP z.sets:=V.ord.rising.pw;unfold gi gj;rw[hs];cases hf:z.sets.find? (λs=>s.set.type==4)with
 |none =>
  have:=List.find?_eq_none.1 hf s hm;simp[hp4]at this
 |some x =>
  have hx:=List.mem_of_find?_eq_some hf;have hx4:x.set.type=4:=by simpa using List.find?_some hf
  have hfit:=V.fit x hx;rw[hx4]at hfit;have hn:x.set.name=z.apex:=by simpa [fits] using hfit
  have:x=s:=hR.uniq hx hm (by
   rw[hp];show(x.set.name,x.set.type)=(z.apex,4)
   rw[hn,hx4])
  subst this;rfl
def gT(p q:ai):Int:=jC [cR (gi q.zone) (gi p.zone),cR p.host q.host]
theorem lQ(p q:ai):gT p q<0 ↔ gi q.zone<gi p.zone\/(gi q.zone=gi p.zone/\p.host<q.host):=by
 unfold gT jC cR;by_cases h1:gi q.zone<gi p.zone
 . simp[h1]
 . by_cases h2:gi p.zone<gi q.zone
   . have:¬gi q.zone=gi p.zone:=by omega
     simp[h1,h2,this]
   . have:gi q.zone=gi p.zone:=by omega
     by_cases h3:p.host<q.host
     . simp[this,h3]
     . by_cases h4:q.host<p.host
       . simp[this,h3,h4]
       . simp[this,h3,h4]
theorem pa(l:List ai):jb gT l:=by
 refine⟨λx _=>?_,λx _ y _ z _=>?_,λx _ y _ z _=>?_⟩
 . show ¬gT x x<0
   rw[lQ];omega
 . show gT x y<0->gT y z<0->gT x z<0
   rw[lQ,lQ,lQ];omega
 . show ¬gT x y<0-> ¬gT y z<0-> ¬gT x z<0
   rw[lQ,lQ,lQ];omega
theorem Iv{p q:ai}(hp:aW p.zone=true)(hq:aW q.zone=true):gT p q<0 ↔ dK p q=true:=by
 rw[lQ,nW,zo hp,zo hq,Hs hp,Hs hq];dsimp only;omega
def rj(l:List ai)(a:Bs):Bool:=l.any λx=>x.zone.apex==a
def bY(out:List ai)(p:ai):List ai:=if rj out p.zone.apex=true then out else out++[p]
def jP(l:List ai):List ai:=l.foldl bY []
theorem JF(l:List ai)(p:ai):jP (l++[p])=bY (jP l) p:=by unfold jP;rw[List.foldl_append];rfl
theorem DG{l:List ai}{a:Bs}:rj l a=true ↔ ∃x∈l,x.zone.apex=a:=by
 unfold rj;simp
theorem rW{c:ai->ai->Int}:∀(l out:List ai),(out++l).Pairwise (λx y=> ¬c y x<0)->out.Pairwise (λx y=>x.zone.apex≠y.zone.apex) ->
 (l.foldl bY out).Pairwise (λx y=>x.zone.apex≠y.zone.apex)/\(∀x∈l.foldl bY out,x∈out++l)/\(∀x∈out,x∈l.foldl bY out)/\ ∀x∈l,∃y∈l.foldl bY out,y.zone.apex=x.zone.apex/\(y=x\/ ¬c x y<0)
 |[],out,_,h=>⟨h,λx hx=>by simpa using hx,λx hx=>hx,λx hx=>by cases hx⟩
 |p::t,out,hs,h=>by
  show(t.foldl bY (bY out p)).Pairwise _/\(∀x∈t.foldl bY (bY out p),_)/\(∀x∈out,x∈t.foldl bY (bY out p))/\ ∀x∈p::t,∃y∈t.foldl bY (bY out p),_
  have hs0:=List.pairwise_append.1 hs;by_cases hp:rj out p.zone.apex=true
  . have e:bY out p=out:=by unfold bY;rw[if_pos hp]
    rw[e];have hs' :(out++t).Pairwise (λx y=> ¬c y x<0):=List.pairwise_append.2 ⟨hs0.1,(List.pairwise_cons.1 hs0.2.1).2,λa ha b hb=>hs0.2.2 a ha b (aK _ hb)⟩;obtain⟨k1,k2,k3,k4⟩:=rW t out hs' h;refine⟨k1,λx hx=>?_,k3,λx hx=>?_⟩
    . rcases List.mem_append.1 (k2 x hx)with hx|hx
      . exact List.mem_append.2 (.inl hx)
      . exact List.mem_append.2 (.inr (aK _ hx))
    . rcases List.mem_cons.1 hx with rfl|hx
      . obtain⟨y,hy,ha⟩:=DG.1 hp;exact⟨y,k3 y hy,ha,.inr (hs0.2.2 y hy x (List.mem_cons_self ..))⟩
      . exact k4 x hx
  . have e:bY out p=out++[p]:=by unfold bY;rw[if_neg hp]
    rw[e];have hs' :((out++[p])++t).Pairwise (λx y=> ¬c y x<0):=by rw[List.append_assoc];exact hs
    have hno:∀x∈out,x.zone.apex≠p.zone.apex:=λx hx ha=>hp (DG.2 ⟨x,hx,ha⟩)
    have h' :(out++[p]).Pairwise (λx y=>x.zone.apex≠y.zone.apex):=List.pairwise_append.2 ⟨h,List.pairwise_singleton _ _,λa ha b hb=>by rw[List.mem_singleton]at hb;subst hb;exact hno a ha⟩;obtain⟨k1,k2,k3,k4⟩:=rW t (out++[p]) hs' h';refine⟨k1,λx hx=>?_,λx hx=>k3 x (List.mem_append.2 (.inl hx)),λx hx=>?_⟩
    . have:=k2 x hx;rw[List.append_assoc]at this;exact this
    . rcases List.mem_cons.1 hx with rfl|hx
      . exact⟨x,k3 x (List.mem_append.2 (.inr (List.mem_singleton.2 rfl))),rfl,.inl rfl⟩
      . exact k4 x hx
def eT(zs:List ai):List ai:=jP (de gT zs)
structure PU(zs:List ai):Prop where
 apart:(eT zs).Pairwise (λx y=>x.zone.apex≠y.zone.apex)
 sub:∀x∈eT zs,x∈zs
 copy:∀a,(aY (eT zs) a).map (·.2)=(aY zs a).map (·.2)
 mem:∀x,x∈eT zs ↔ (aY zs x.zone.apex).map (·.2)=some x
theorem Sd{zs:List ai}(hv:∀p∈zs,aW p.zone=true)(hp:zs.Pairwise (λx p=>df p x=false)):PU zs:=by
 have hperm:=gG (pa zs);obtain⟨k1,k2,_,k4⟩:=rW (c:=gT) (de gT zs) [] (by simpa using pW (pa zs)) List.Pairwise.nil;have k1:(eT zs).Pairwise (λx y=>x.zone.apex≠y.zone.apex):=k1;have sub:∀x∈eT zs,x∈zs:=λx hx=>hperm.subset (by simpa using k2 x hx)
 have uniq:∀{x y:ai},x∈eT zs->y∈eT zs->x.zone.apex=y.zone.apex->x=y:=λ{x y} hx hy e=>by
  by_cases h:x=y
  . exact h
  . have:∀{l:List ai},l.Pairwise (λx y=>x.zone.apex≠y.zone.apex)->x∈l->y∈l->x=y:=λ{l} hl=>by
     induction l with
     |nil=>intro h;cases h
     |cons a t ih =>
      intro h1 h2;have hl' :=List.pairwise_cons.1 hl;rcases List.mem_cons.1 h1 with e1|h1
      . rcases List.mem_cons.1 h2 with e2|h2
        . rw[e1,e2]
        . exact absurd (by rw[<- e1];exact e) (hl'.1 y h2)
      . rcases List.mem_cons.1 h2 with e2|h2
        . exact absurd (by rw[<- e2];exact e.symm) (hl'.1 x h1)
        . exact ih hl'.2 h1 h2
    exact this k1 hx hy
 have best:∀{x:ai},x∈eT zs-> ∀q∈zs,q.zone.apex=x.zone.apex->dK q x=false:=λ{x} hx q hq e=>by
  obtain⟨y,hy,ey,hc⟩:=k4 q (hperm.mem_iff.2 hq);have:y=x:=uniq hy hx (ey.trans e);subst this;rw[Bool.eq_false_iff];intro hn;rcases hc with hc|hc
  . subst hc;rw[nW]at hn;omega
  . exact hc ((Iv (hv q hq) (hv _ (sub _ hx))).2 hn)
 have cp:∀{x:ai},x∈eT zs->(aY zs x.zone.apex).map (·.2)=some x:=λ{x} hx=>by
  cases h:aY zs x.zone.apex with
  |none=>exact absurd rfl (ui.1 h x (sub x hx))
  |some y =>
   obtain⟨h1,h2,h3⟩:=dG h;have b1:=best hx y.2 h1 h2;have b2:=h3 x (sub x hx) rfl;have:y.2=x:=by
    rw[Bool.eq_false_iff]at b1 b2;rw[Ne,nW]at b1 b2;exact ve hp h1 (sub x hx) (by omega) h2
   rw[<- this];rfl
 refine⟨k1,sub,λa=>?_,λx=>⟨cp,λh=>?_⟩⟩
 . cases h:aY (eT zs) a with
   |none =>
    cases h' :aY zs a with
    |none=>rfl
    |some y =>
     obtain⟨h1,h2,_⟩:=dG h';obtain⟨z,hz,ez,_⟩:=k4 y.2 (hperm.mem_iff.2 h1);exact absurd (ez.trans h2) (ui.1 h z hz)
   |some y =>
    obtain⟨h1,h2,_⟩:=dG h;have:=cp h1;rw[h2]at this;rw[this];rfl
 . cases hc:aY zs x.zone.apex with
   |none=>rw[hc]at h;cases h
   |some y =>
    rw[hc]at h;have ey:y.2=x:=by simpa using h
    obtain⟨h1,h2,_⟩:=dG hc;obtain⟨z,hz,ez,_⟩:=k4 y.2 (hperm.mem_iff.2 h1);have:=cp hz;rw[ez,h2,hc]at this;have e2:y.2=z:=by simpa using this
    rw[<- ey,e2];exact hz
theorem iY{w:az}(h:aN w=true):PU w.zones:=Sd (λp hp=>(bB h p hp).1) (wV h)
theorem qV:∀(l out:List ai),(l.foldl bY out).length<=out.length+l.length
 |[],out=>by simp
 |p::t,out=>by
  have:=qV t (bY out p);have h2:(bY out p).length<=out.length+1:=by
   unfold bY;split
   . omega
   . simp
  show(t.foldl bY (bY out p)).length<=_
  rw[List.length_cons];omega
theorem zY(zs:List ai):(eT zs).length<=zs.length:=by
 have:=qV (de gT zs) [];rw[(gG (pa zs)).length_eq]at this;simpa [eT,jP] using this
theorem Gy{w:az}{l:List ai}(h:aN w=true)(hm:∀p∈l,p∈w.zones)(hl:l.length<=w.zones.length)(hp:l.Pairwise (λx p=>df p x=false)):aN (Kr w l)=true:=by
 unfold aN jI at h ⊢;simp only[ay,decide_eq_true_eq]at h ⊢;obtain⟨⟨h1,⟨h2,h3⟩,h4⟩,h5⟩:=h;have ha:=Ii (l:=w.zones) (l' :=l) hm;rw[zV]at h4;rw[pt]at h3;exact⟨⟨h1,⟨by show(l.length:Int)<=4000;omega,by
  show dx w.hosts.length [] l=true
  rw[pt];exact⟨λp hp=>h3.1 p (hm p hp),hp⟩⟩,by show((apx l).length:Int)<=500;rw[zV];omega⟩,h5⟩
def uc(w:az):az:=Kr w (eT w.zones)
theorem KQ{w:az}(h:aN w=true):aN (uc w)=true:=by
 have C:=iY h;refine Gy h C.sub (zY _) (C.apart.imp λ{x y} hxy=>?_);unfold df;rw[Bool.and_eq_false_iff];right;rw[beq_eq_false_iff_ne];exact Ne.symm hxy
theorem GL{w:az}(hF:cA w)(h:aN w=true):cA (uc w) :=
 ⟨hF.hosts,Nat.le_trans (zY _) hF.zones,hF.hints,λp hp=>hF.few p ((iY h).sub p hp)⟩
theorem Bb{w:az}{q:aR}(h:aN w=true):dA (uc w) q=dA w q:=by
 by_cases hq:bK q=true
 . exact Gr (KQ h) h hq λa=>(iY h).copy a
 . have hq' :bK q=false:=by simpa using hq
   unfold dA;rw[if_pos (by rw[hq',iE]),if_pos (by rw[hq',iE])]
/-! ### Findings in order -/
structure Fnd where
 kind:Int
 zone:Bs
 name:Bs
deriving DecidableEq
def cr(f:Fnd):List D:=[.int .i64 f.kind,.str f.zone,.str f.name]
def gS(a b:Fnd):Int:=jC [cR a.kind b.kind,aI a.zone b.zone,aI a.name b.name]
theorem zZ(a b:Fnd):gS a b<0 ↔ a.kind<b.kind\/(a.kind=b.kind/\(aI a.zone b.zone<0\/(a.zone=b.zone/\aI a.name b.name<0))):=by
 unfold gS;rw[Hk];have hz:=bo.zero a.zone b.zone;unfold cR;by_cases h1:a.kind<b.kind
 . simp[h1]
 . by_cases h2:b.kind<a.kind
   . have:¬a.kind=b.kind:=by omega
     simp[h1,h2,this]
   . have h3:a.kind=b.kind:=by omega
     simp only[h1,h2,if_false,if_true];by_cases h4:aI a.zone b.zone=0
     . have h5:=hz.1 h4;rw[if_pos h4];have h6:¬aI a.zone b.zone<0:=by omega
       constructor
       . intro h;exact .inr ⟨h3,.inr ⟨h5,h⟩⟩
       . rintro(h|⟨_,h|⟨_,h⟩⟩)
         . exact h.elim
         . exact absurd h h6
         . exact h
     . have h5:¬a.zone=b.zone:=λe=>h4 (hz.2 e)
       rw[if_neg h4];simp[h3,h5]
theorem Bc{a b:Fnd}(h1:¬gS a b<0)(h2:¬gS b a<0):a=b:=by
 rw[zZ]at h1 h2;have hk:a.kind=b.kind:=by omega
 have hz:a.zone=b.zone:=by
  have:=bo.anti a.zone b.zone;exact(bo.zero _ _).1 (by omega)
 have hn:a.name=b.name:=by
  have:=bo.anti a.name b.name;have h3:¬aI a.name b.name<0:=λe=>h1 (.inr ⟨hk,.inr ⟨hz,e⟩⟩)
  have h4:¬aI b.name a.name<0:=λe=>h2 (.inr ⟨hk.symm,.inr ⟨hz.symm,e⟩⟩)
  exact(bo.zero _ _).1 (by omega)
 cases a;cases b;simp at hk hz hn;simp[hk,hz,hn]
theorem tD{a b c:Bs}(h1:aI a b<0)(h2:aI b c<0):aI a c<0:=bo.Tk h1 (by omega)
theorem mq{a b c:Fnd}(h1:gS a b<0)(h2:gS b c<0):gS a c<0:=by
 rw[zZ]at h1 h2 ⊢;rcases h1 with h1|⟨h1,h1'⟩
 . rcases h2 with h2|⟨h2,_⟩
   . exact .inl (by omega)
   . exact .inl (by omega)
 . rcases h2 with h2|⟨h2,h2'⟩
   . exact .inl (by omega)
   . refine .inr ⟨by omega,?_⟩;rcases h1' with h1' |⟨e1,h1'⟩
     . rcases h2' with h2' |⟨e2,h2'⟩
       . exact .inl (tD h1' h2')
       . exact .inl (by rw[<- e2];exact h1')
     . rcases h2' with h2' |⟨e2,h2'⟩
       . exact .inl (by rw[e1];exact h2')
       . exact .inr ⟨e1.trans e2,tD h1' h2'⟩
theorem sw(a:Fnd):¬gS a a<0:=by
 rw[zZ];have h1:=(bo.zero a.zone a.zone).2 rfl;have h2:=(bo.zero a.name a.name).2 rfl;omega
def mh(l:List Fnd):Prop:=l.Pairwise λa b=>gS a b<0
theorem mh.nodup{l:List Fnd}(h:mh l):l.Nodup:=h.imp λ{a b} hab e=>by subst e;exact sw a hab
theorem mh.ext{a b:List Fnd}(ha:mh a)(hb:mh b)(h:∀x,x∈a ↔ x∈b):a=b :=
 List.Perm.eq_of_pairwise (le:=λa b=>gS a b<0) (λa b _ _ h1 h2=>absurd (mq h1 h2) (sw a)) ha hb ((List.perm_ext_iff_of_nodup ha.nodup hb.nodup).2 h)
def rk(f:Fnd):List Fnd->List Fnd
 |[]=>[f]
 |g::t=>if f=g then g::t else if gS f g<0 then f::g::t else g::rk f t
theorem xK(f x:Fnd):∀l,x∈rk f l ↔ x=f\/x∈l
 |[]=>by simp[rk]
 |g::t=>by
  unfold rk;split
  . rename_i h;subst h;simp
  . split
    . simp
    . rw[List.mem_cons,xK f x t,List.mem_cons];constructor
      . rintro(h|h|h)
        . exact .inr (.inl h)
        . exact .inl h
        . exact .inr (.inr h)
      . rintro(h|h|h)
        . exact .inr (.inl h)
        . exact .inl h
        . exact .inr (.inr h)
theorem Bl(f:Fnd):∀{l:List Fnd},mh l->mh (rk f l)
 |[],_=>List.pairwise_singleton _ _
 |g::t,h=>by
  have h' :=List.pairwise_cons.1 h;unfold rk;split
  . exact h
  . rename_i hne;split
    . rename_i hlt;refine List.pairwise_cons.2 ⟨λx hx=>?_,h⟩;rcases List.mem_cons.1 hx with rfl|hx
      . exact hlt
      . exact mq hlt (h'.1 x hx)
    . rename_i hlt;refine List.pairwise_cons.2 ⟨λx hx=>?_,Bl f h'.2⟩;rcases (xK f x t).1 hx with rfl|hx
      . rcases Classical.em (gS g x<0)with h1|h1
        . exact h1
        . exact absurd (Bc hlt h1) hne
      . exact h'.1 x hx
def mK(l:List Fnd):List Fnd:=l.foldl (λout f=>rk f out) []
theorem xX:∀(l out:List Fnd),mh out->mh (l.foldl (λout f=>rk f out) out)/\ ∀x,x∈l.foldl (λout f=>rk f out) out ↔ x∈out\/x∈l
 |[],out,h=>⟨h,λx=>by simp⟩
 |f::t,out,h=>by
  obtain⟨k1,k2⟩:=xX t (rk f out) (Bl f h);refine⟨k1,λx=>(k2 x).trans ?_⟩;rw[xK,List.mem_cons];constructor
  . rintro((h|h)|h)
    . exact .inr (.inl h)
    . exact .inl h
    . exact .inr (.inr h)
  . rintro(h|h|h)
    . exact .inl (.inr h)
    . exact .inl (.inl h)
    . exact .inr h
theorem oV(l:List Fnd):mh (mK l):=(xX l [] List.Pairwise.nil).1
theorem lU{l:List Fnd}{x:Fnd}:x∈mK l ↔ x∈l:=((xX l [] List.Pairwise.nil).2 x).trans (by simp)
theorem rE{l l' :List Fnd}(h:∀x,x∈l ↔ x∈l'):mK l=mK l' :=(oV l).ext (oV l') λx=>by rw[lU,lU,h]
/-! ### Who serves what -/
def addrOf(hs:List eu)(k:Int):Int:=match hs[k.toNat]? with|some h=>h.addr|none=>0
def mJ(w:az)(p:ai):Bs×Int:=(p.zone.apex,addrOf w.hosts p.host)
def bM(w:az)(a:Bs)(n:Int):Bool:=w.zones.any λp=>(p.zone.apex==a)&&(addrOf w.hosts p.host==n)
theorem uO:∀(l:List eu) (seen:List Int),ij seen l=true->l.Pairwise (λx y=>x.addr≠y.addr)/\ ∀x∈l,x.addr ∉ seen
 |[],_,_=>⟨List.Pairwise.nil,λx hx=>by cases hx⟩
 |x::t,seen,h=>by
  unfold ij at h;simp only[ay,Bool.not_eq_true',Bool.or_eq_false_iff]at h;obtain⟨k1,k2⟩:=uO t _ h.2;have hx:x.addr ∉ seen:=λe=>by
   have:=h.1.2.2;rw[dw.2 e]at this;cases this
  refine⟨List.Pairwise.cons (λy hy e=>k2 y hy (by rw[<- e];simp)) k1,λy hy=>?_⟩;rcases List.mem_cons.1 hy with rfl|hy
  . exact hx
  . exact λe=>k2 y hy (List.mem_append.2 (.inl e))
theorem Ja{w:az}(h:aN w=true):w.hosts.Pairwise (λx y=>x.addr≠y.addr):=by
 unfold aN kj at h;simp only[ay]at h;exact(uO _ _ h.1.1.2).1
theorem DI:∀{l:List eu},l.Pairwise (λx y=>x.addr≠y.addr)-> ∀{k:Nat} {h:eu},l[k]? =some h->hX l h.addr=(k:Int)
 |[],_,k,h,hk=>by simp at hk
 |x::t,hp,k,h,hk=>by
  have hp' :=List.pairwise_cons.1 hp;cases k with
  |zero =>
   have:x=h:=by simpa using hk
   subst this;unfold hX;rw[List.findIdx?_cons,if_pos (by simp)]
  |succ k =>
   have hk' :t[k]? =some h:=by simpa using hk
   have ih:=DI hp'.2 hk';have hne:x.addr≠h.addr:=hp'.1 h (ao hk');unfold hX at ih ⊢;rw[List.findIdx?_cons,if_neg (by simpa using hne)];cases hf:t.findIdx? (λy=>y.addr==h.addr)with
   |none=>rw[hf]at ih;dsimp only at ih;omega
   |some j =>
    rw[hf]at ih;have:j=k:=by dsimp only at ih;omega
    subst this;rfl
theorem IY{l:List eu}{a:Int}{k:Nat}(h:hX l a=(k:Int)):∃x,l[k]? =some x/\x.addr=a:=by
 unfold hX at h;cases hf:l.findIdx? (λy=>y.addr==a)with
 |none=>rw[hf]at h;dsimp only at h;omega
 |some j =>
  rw[hf]at h;have e:j=k:=by dsimp only at h;omega
  subst e;obtain⟨h1,h2,_⟩:=List.findIdx?_eq_some_iff_getElem.1 hf;exact⟨l[j],ah h1,by simpa using h2⟩
theorem Bk{w:az}(h:aN w=true){p:ai}(hp:p∈w.zones)(n:Int):(p.host==hX w.hosts n)=(addrOf w.hosts p.host==n):=by
 obtain⟨_,h0,h1⟩:=bB h p hp;obtain⟨k,hk⟩:∃k:Nat,p.host=(k:Int):=⟨p.host.toNat,by omega⟩
 obtain⟨x,hx⟩:∃x,w.hosts[k]? =some x:=⟨_,ah (by omega)⟩
 have ha:addrOf w.hosts p.host=x.addr:=by unfold addrOf;rw[hk,Int.toNat_natCast,hx]
 rw[ha,hk];by_cases e:x.addr=n
 . subst e;rw[DI (Ja h) hx];simp
 . have:¬(k:Int)=hX w.hosts n:=λe' =>by
    obtain⟨y,hy,hya⟩:=IY e'.symm;rw[hx]at hy;have:x=y:=by simpa using hy
    subst this;exact e hya
   rw[beq_eq_false_iff_ne.2 this,beq_eq_false_iff_ne.2 e]
/-! ### The servers of a zone -/
def bR(z:aF)(a:Bs):List Bs:=(z.sets.filter λs=>(s.set.name==a)&&(s.set.type==2)).flatMap λs=>s.set.data.map (·.text)
def iM(zs:List ai):Nat->Bs->Option Bs
 |0,_=>none
 |f+1,s=>if s=[46]then none else if (aY zs (bu s)).isSome=true then some (bu s)else iM zs f (bu s)
def di(zs:List ai)(a:Bs):Option Bs:=iM zs ((bc a).length+1) a
def fD(zs:List ai)(b a:Bs):List Bs:=match aY zs b with|some x=>bR x.2.zone a|none=>[]
def bx(zs:List ai)(a:Bs):List Bs×Bool:=match di zs a with
 |some b=>(fD zs b a,decide (0<(fD zs b a).length))
 |none=>if a=[46]then(fD zs a a,true)else([],false)
/-! ### Addresses -/
def iq(A:Ans×Int):List Datum:=if A.2=0/\(A.1.kind=1\/A.1.kind=2)then(match (A.1.sets.filter λs=>s.set.type==1).getLast? with|some s=>s.set.data|none=>[])else[]
def cM(w:az)(s:Bs):List Int:=(iq (dA w ⟨s,1⟩)).map (·.n)
def gq(z:aF)(s:Signed):Bool:=(s.set.type==1)&& !(bT z s.set.name==[])
def mv(w:az)(a s:Bs):List Fnd:=(if (cM w s).isEmpty=true then[⟨3,a,s⟩]else[])++(if (cM w s).any (λn=> !bM w a n)=true then[⟨1,a,s⟩]else[])
def lD(w:az)(a:Bs)(s:gx):List Fnd:=if (cM w s.name==s.data.map (·.n))=true then[]else[⟨2,a,s.name⟩]
def ji(w:az)(z:aF):List Fnd:=if ((bx w.zones z.apex).2&&((bx w.zones z.apex).1==bR z z.apex))=true then[]else[⟨4,z.apex,z.apex⟩]
def oI(w:az)(z:aF):List Fnd:=ji w z++(bx w.zones z.apex).1.flatMap (mv w z.apex)++(z.sets.filter (gq z)).flatMap λs=>lD w z.apex s.set
def findAll(w:az):List Fnd:=(eT w.zones).flatMap λp=>oI w p.zone
def rh(w:az):List Fnd:=mK (findAll w)
end NP
