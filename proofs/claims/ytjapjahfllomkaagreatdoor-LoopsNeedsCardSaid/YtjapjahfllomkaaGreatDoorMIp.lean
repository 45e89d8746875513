/-
  Texts of the proof, merged in build order.
-/
import Derived.Test.YtjapjahfllomkaaGreatDoorAbM
import Derived.Test.YtjapjahfllomkaaGreatDoorIaM
import Derived.Test.YtjapjahfllomkaaGreatDoorMGja
import Derived.Lib.SlicesCompact
import Derived.Test.YtjapjahfllomkaaGreatDoorMVa
import Derived.Test.YtjapjahfllomkaaGreatDoorMQt
set_option linter.all false
set_option maxRecDepth 100000
namespace NP
open NQ Go
/-! ### The way -/
def jo(zs:List ag)(q:bg):Nat->Bs->List (Bs×Ans)
 | 0,_=>[]
 | f+1,a=>match bX zs a with
  | none=>[]
  | some x=>(a,(bG x.2.zone q).1)::(if ((bG x.2.zone q).1.kind != 4)=true then[]else jo zs q f (bG x.2.zone q).1.cut)
def iC(zs:List ag)(q:bg):List (Bs×Ans):=jo zs q ((back q.name).length+2) [46]
def ug(p:Bs×Ans):List D:=[.str p.1, .agg (dw p.2)]
theorem lD{zs:List ag}{q:bg}{f:Nat}{a:Bs}(h:bX zs a=none):jo zs q f a=[]:=by
 cases f with
 | zero=>rfl
 | succ f=>unfold jo;rw[h]
theorem lE{zs:List ag}{q:bg}{f:Nat}{a:Bs}{x:Nat×ag}(h:bX zs a=some x):jo zs q (f+1) a=(a,(bG x.2.zone q).1)::(if ((bG x.2.zone q).1.kind != 4)=true then[]else jo zs q f (bG x.2.zone q).1.cut):=by
 rw[jo,h]
theorem E9(zs:List ag)(q:bg):∀(f:Nat) (a:Bs),lR zs (dx zs) q f a=match (jo zs q f a).find? (fun p=>p.2.kind != 4)with | some p=>(p.2,true) | none=>(lp,false)
 | 0,a=>rfl
 | f+1,a=>by
  rw[CQ];cases h:bX zs a with
  | none=>rw[lD h];rfl
  | some x =>
   rw[lE h];dsimp only;cases hk:((bG x.2.zone q).1.kind != 4)with
   | true=>rw[if_pos rfl,List.find?_cons_of_pos (p:=fun p:Bs×Ans=>p.2.kind != 4) hk]
   | false=>rw[if_neg (by simp),List.find?_cons_of_neg (p:=fun p:Bs×Ans=>p.2.kind != 4) (by simp[hk]),if_neg (by simp)];exact E9 zs q f _
theorem ky{zs:List ag}{a:Bs}{x:Nat×ag}(h:bX zs a=some x):x.2∈zs/\x.2.zone.apex=a:=⟨(Br h).1,(Br h).2.1⟩
theorem qV{zs:List ag}{q:bg}(hg:eP zs)(hq:bZ q=true){a:Bs}(hu:aG q.name a=true){x:Nat×ag}(h:bX zs a=some x):Use x.2.zone q:=by
 obtain⟨h1,h2⟩:=ky h;exact⟨(hg _ h1).1,(hg _ h1).2,hq,by rw[h2];exact hu⟩
theorem Fb{zs:List ag}{q:bg}(hg:eP zs)(hq:bZ q=true):∀(f:Nat) (a:Bs),aG q.name a=true-> ∀p∈jo zs q f a,∃x,bX zs p.1=some x/\p.2=(bG x.2.zone q).1/\Use x.2.zone q/\aG q.name p.1=true
 | 0,a,hu,p,hp=>by cases hp
 | f+1,a,hu,p,hp=>by
  cases h:bX zs a with
  | none=>rw[lD h]at hp;cases hp
  | some x =>
   rw[lE h]at hp;have u:=qV hg hq hu h;rcases List.mem_cons.1 hp with rfl | hp
   . exact⟨x,h,rfl,u,hu⟩
   . cases hk:((bG x.2.zone q).1.kind != 4)with
     | true=>rw[hk,if_pos rfl]at hp;cases hp
     | false=>rw[hk,if_neg (by simp)]at hp;exact Fb hg hq f _ (gJ u hk).1 p hp
theorem C7{zs:List ag}{q:bg}(hg:eP zs)(hq:bZ q=true):∀p∈iC zs q,∃x,bX zs p.1=some x/\p.2=(bG x.2.zone q).1/\Use x.2.zone q/\aG q.name p.1=true:=Fb hg hq _ _ (iP _)
/-! ### Delegations -/
def fX(a:Bs)(p:Bs×Ans):Bool:=(p.2.kind==4)&&(p.2.cut==a)
def cK(zs:List ag)(a:Bs):Option (Bs×Ans):=if a=[46]then none else(iC zs ⟨a,2⟩).find? (fX a)
theorem xM{a:Bs}(h:aj a=true):bZ ⟨a,2⟩=true:=by unfold bZ;rw[h];rfl
theorem IX{a:Bs}(h:aj a=true):bZ ⟨a,1⟩=true:=by unfold bZ;rw[h];rfl
theorem Bz{zs:List ag}(hg:eP zs){a:Bs}(ha:aj a=true){p:Bs×Ans}(h:cK zs a=some p) :
 a ≠ [46]/\p.2.cut=a/\p.2.kind=4/\aG a p.1=true/\ ∃x s0 R,bX zs p.1=some x/\p.2=(bG x.2.zone ⟨a,2⟩).1/\Use x.2.zone ⟨a,2⟩/\s0∈x.2.zone.sets/\s0.place=(a,2)/\p.2.sets=s0::R/\(∀d∈s0.set.data,aj d.text=true)/\s0.set.data.length<=20 /\
  ∀s∈R,s.set.type ≠ 2:=by
 unfold cK at h;split at h
 . cases h
 . rename_i hne;have hm:=List.mem_of_find?_eq_some h;have hp:=List.find?_some h;unfold fX at hp;simp only[aP,beq_iff_eq]at hp;obtain⟨x,h1,h2,u,h3⟩:=C7 hg (xM ha) p hm;refine⟨hne,hp.2,hp.1,h3,x,?_⟩;cases hr:eC (vw x.2.zone ⟨a,2⟩)with
   | false =>
    have:=(u.EO hr).1;rw[<- h2,hp.1]at this;cases this
   | true =>
    obtain⟨s0,R,r1,r2,r3,r4⟩:=u.Mj hr;have hc:bw x.2.zone a=a:=by have:=hp.2;rw[h2,r3]at this;exact this
    have r2' :s0.place=(a,2):=by rw[r2];show(bw x.2.zone a,(2:Int))=_;rw[hc]
    refine⟨s0,R,h1,h2,u,r1,r2',by rw[h2,r3],zT (u.ord.set s0 r1) (congrArg Prod.snd r2'),((dH u.few).2 s0 r1).1,fun s hs e=>?_⟩;rcases r4 s hs with h | h | h <;> rw[h.1]at e <;> cases e
def cE(a:Ans):List Bs:=(a.sets.filter fun s=>(s.set.type==2)&&(s.set.name==a.cut)).flatMap fun s=>s.set.data.map (·.text)
def eo(a:Ans)(n:Bs):Bool:=a.sets.any fun s=>(s.set.type==1)&&(s.set.name==n)
theorem oW{zs:List ag}(hg:eP zs){a:Bs}(ha:aj a=true){p:Bs×Ans}(h:cK zs a=some p):∃s0 R,p.2.sets=s0::R/\cE p.2=s0.set.data.map (·.text)/\(∀n∈cE p.2,aj n=true)/\(cE p.2).length<=20:=by
 obtain⟨_,hc,_,_,x,s0,R,_,_,_,_,hp,hs,hv,hl,hR⟩:=Bz hg ha h;have e:cE p.2=s0.set.data.map (·.text):=by
  unfold cE;rw[hs,List.filter_cons_of_pos (by have h1:s0.set.type=2:=congrArg Prod.snd hp;have h2:s0.set.name=a:=congrArg Prod.fst hp;rw[hc,h1,h2];simp)];have:R.filter (fun s=>(s.set.type==2)&&(s.set.name==p.2.cut))=[]:=List.filter_eq_nil_iff.2 fun s hs=>by simp[hR s hs]
  rw[this];simp
 refine⟨s0,R,hs,e,fun n hn=>?_,by rw[e,ao];exact hl⟩;rw[e]at hn;obtain⟨d,hd,rfl⟩:=List.mem_map.1 hn;exact hv d hd
/-! ### gN -/
def rB(zs:List ag):Nat->Bs->Option Bs
 | 0,_=>none
 | f+1,s=>if (bX zs s).isSome=true then some s else if s=[46]then none else rB zs f (cw s)
def ff(zs:List ag)(s:Bs):Option Bs:=rB zs ((bd s).length+1) s
theorem xp{zs:List ag}:∀(f:Nat) (s:Bs),aj s=true->(bd s).length<f ->
 match rB zs f s with
  | some h=>(bX zs h).isSome=true/\aG s h=true/\ ∀b,(bX zs b).isSome=true->aG s b=true->aG h b=true
  | none=> ∀b,(bX zs b).isSome=true->aG s b=false
 | 0,s,_,h=>by omega
 | f+1,s,hv,hf=>by
  unfold rB;by_cases hc:(bX zs s).isSome=true
  . rw[if_pos hc];exact⟨hc,fF s,fun b _ h=>h⟩
  . rw[if_neg hc];by_cases hs:s=[46]
    . rw[if_pos hs];intro b hb;cases hu:aG s b with
      | false=>rfl
      | true =>
       exfalso
       subst hs;have:b=[46]:=oE (iP b) hu;exact hc (this ▸ hb)
    . rw[if_neg hs];have hlt:(bd (cw s)).length<(bd s).length:=by
       obtain⟨_,_,h3⟩:=kg hv (iP s) hs;omega
      have up:∀b,(bX zs b).isSome=true->aG s b=true->aG (cw s) b=true:=fun b hb hu=>ud hv hu fun e=>hc (e ▸ hb)
      have ih:=xp (zs:=zs) f (cw s) (eV hv) (by omega);split at ih
      . rename_i h e;exact⟨ih.1,nr (tI hv) ih.2.1,fun b hb hu=>ih.2.2 b hb (up b hb hu)⟩
      . intro b hb;cases hu:aG s b with
        | false=>rfl
        | true=>exact absurd (up b hb hu) (by simp[ih b hb])
theorem rA(zs:List ag){s:Bs}(hv:aj s=true):match ff zs s with
 | some h=>(bX zs h).isSome=true/\aG s h=true/\ ∀b,(bX zs b).isSome=true->aG s b=true->aG h b=true
 | none=> ∀b,(bX zs b).isSome=true->aG s b=false:=xp _ s hv (Nat.lt_succ_self _)
/-! ### Needs -/
def eG(zs:List ag)(a:Ans)(l:List Bs):List Bs:=l.filterMap fun n=>if eo a n=true then none else ff zs n
def bq(zs:List ag)(a:Bs):List Bs:=match cK zs a with
 | none=>[]
 | some p=>Lib.compact (iw (eG zs p.2 (cE p.2)))
theorem DE{l:List Bs}{a:Bs}(h:a∈l):∃j,j<l.length/\l[j]? =some a/\Lib.keeps l.toArray j=true:=by
 obtain⟨j,hj⟩:=b5 h;induction j using Nat.strongRecOn with
 | _ j ih =>
  have hlt:=(ar.1 hj).1;by_cases h0:j=0
  . exact⟨j,hlt,hj,by simp[Lib.keeps,h0]⟩
  . by_cases hp:l[j-1]? =some a
    . exact ih (j-1) (by omega) hp
    . refine⟨j,hlt,hj,?_⟩;have h1:l.toArray[j]! =a:=by simp[hj]
      have h2:l.toArray[j-1]! ≠ a:=by
       intro e;apply hp;have:j-1<l.length:=by omega
       simp[ai this]at e ⊢;exact e
      simp[Lib.keeps];right;intro e;apply h2;have e' :l.toArray[j]! =l.toArray[j-1]! :=by simpa using e
      rw[<- e',h1]
theorem uZ{l:List Bs}{a:Bs}:a∈Lib.compact l ↔ a∈l:=by
 unfold Lib.compact Lib.compactUpTo;rw[List.mem_map];constructor
 . rintro⟨j,hj,rfl⟩;have:=List.mem_range.1 (List.mem_filter.1 hj).1;simp[ai this]
 . intro h;obtain⟨j,h1,h2,h3⟩:=DE h;exact⟨j,List.mem_filter.2 ⟨List.mem_range.2 h1,h3⟩,by simp[h2]⟩
theorem Ak{l:List Bs}(h:l.Pairwise fun a b=>aR a b<=0):(Lib.compact l).Pairwise fun a b=>aR a b= -1:=by
 unfold Lib.compact Lib.compactUpTo;rw[List.pairwise_map];have hr:((List.range l.length).filter (Lib.keeps l.toArray)).Pairwise (· < ·):=(List.pairwise_lt_range).filter _;refine hr.imp_of_mem fun{i j} hi hj hij=>?_
 have hi' :=List.mem_range.1 (List.mem_filter.1 hi).1;have hj' :=List.mem_range.1 (List.mem_filter.1 hj).1;have hk:=(List.mem_filter.1 hj).2;have ei:l.toArray[i]! =l[i]:=by simp[ai hi']
 have ej:l.toArray[j]! =l[j]:=by simp[ai hj']
 have hj1:j-1<l.length:=by omega
 have ep:l.toArray[j-1]! =l[j-1]:=by simp[ai hj1]
 have hne:l[j] ≠ l[j-1]:=by
  intro e;unfold Lib.keeps at hk;rw[ej,ep,e]at hk;simp at hk;omega
 have hP:=List.pairwise_iff_getElem.1 h;have h2:aR l[j-1] l[j]<=0:=hP (j-1) j hj1 hj' (by omega);have h1:aR l[i] l[j-1]<=0:=by
  by_cases e:i=j-1
  . subst e;rw[(bc.zero _ _).2 rfl];decide
  . exact hP i (j-1) hi' hj1 (by omega)
 rw[ei,ej];have hlt:aR l[j-1] l[j]= -1:=by
  rcases bc.range l[j-1] l[j]with e | e | e
  . exact e
  . exact absurd ((bc.zero _ _).1 e).symm hne
  . omega
 have hle:=bc.le_trans h1 h2;rcases bc.range l[i] l[j]with e | e | e
 . exact e
 . have e' :=(bc.zero _ _).1 e;rw[e']at h1;have:=bc.anti l[j-1] l[j];omega
 . omega
theorem vq(zs:List ag)(a:Bs):(bq zs a).Pairwise fun a b=>aR a b= -1:=by
 unfold bq;split
 . exact List.Pairwise.nil
 . exact Ak (kb _)
theorem IM{zs:List ag}{a b:Bs}:b∈bq zs a ↔ ∃p,cK zs a=some p/\ ∃n∈cE p.2,eo p.2 n=false/\ff zs n=some b:=by
 unfold bq;cases h:cK zs a with
 | none=>simp
 | some p =>
  simp only[Option.some.injEq,exists_eq_left'];rw[uZ,tA];unfold eG;rw[List.mem_filterMap];constructor
  . rintro⟨n,hn,hx⟩;split at hx
    . cases hx
    . rename_i hg;exact⟨n,hn,by simpa using hg,hx⟩
  . rintro⟨n,hn,hg,hx⟩;exact⟨n,hn,by rw[if_neg (by rw[hg];simp)];exact hx⟩
theorem qi(zs:List ag)(a:Bs):(bq zs a).Nodup:=by
 refine(vq zs a).imp fun{x y} h e=>?_
 rw[(bc.zero x y).2 e]at h;cases h
theorem BV{zs:List ag}{n b:Bs}(hv:aj n=true)(h:ff zs n=some b):b∈dL (dx zs):=by
 have:=rA zs hv;rw[h]at this;exact(iO zs b).2 this.1
theorem tC{zs:List ag}(hg:eP zs){a:Bs}(ha:aj a=true):∀b∈bq zs a,b∈dL (dx zs):=fun b hb=>by
 obtain⟨p,hp,n,hn,_,hh⟩:=IM.1 hb;obtain⟨_,_,_,_,hv,_⟩:=oW hg ha hp;exact BV (hv n hn) hh
theorem nI{zs:List ag}(hg:eP zs){a:Bs}(h:a∈dL (dx zs)):aj a=true:=by
 obtain⟨p,hp,rfl⟩:=zr.1 h;exact(bz (hg p hp).2).apex
theorem mf{zs:List ag}{a:Bs}:a∈aV zs ↔ (bX zs a).isSome=true:=by
 unfold aV;rw[tA,iO]
theorem A3(zs:List ag):(aV zs).Nodup:=(ix _).nodup_iff.2 (tY zs)
theorem lg(zs:List ag):(aV zs).length<=zs.length:=by
 unfold aV dL;rw[(ix _).length_eq,ao];exact x6 zs
/-! ### Roads,and what can be reached -/
structure um where
 there:Bool
 glue:Bool
 above:Bs
 homes:List Bs
def uL(r:um):List D:=[.bool r.there, .bool r.glue, .str r.above, .slice 1 (r.homes.map aA)]
def oZ(zs:List ag)(h n:Bs):Bool:=match bX zs h with | none=>false | some x=>((bG x.2.zone ⟨n,1⟩).1.kind==1)
def gA(zs:List ag)(a:Ans)(l:List Bs):List Bs:=l.filterMap fun n=>if eo a n=true then none else match ff zs n with | none=>none | some h=>if oZ zs h n=true then some h else none
def Mm:um:=⟨false,false,[],[]⟩
def jd(zs:List ag)(a:Bs):um:=match cK zs a with
 | none=>Mm
 | some p=>⟨true,(cE p.2).any (eo p.2),p.1,gA zs p.2 (cE p.2)⟩
def ou(r:um)(f:Bs->Bool):Bool:=r.there&&f r.above&&(r.glue||r.homes.any f)
def il(zs:List ag)(r:List Bs)(a:Bs):Bool:= !r.contains a&&((a==[46])||ou (jd zs a) r.contains)
def dE(zs:List ag)(r:List Bs)(a:Bs):List Bs:=if il zs r a=true then r++[a]else r
def ng(zs:List ag)(r:List Bs)(l:List Bs):List Bs:=l.foldl (dE zs) r
def iF(zs:List ag)(r:List Bs):List Bs:=ng zs r (aV zs)
def tK(zs:List ag):Nat->List Bs->List Bs
 | 0,r=>r
 | k+1,r=>tK zs k (iF zs r)
def mj(zs:List ag):List Bs:=tK zs ((aV zs).length+1) []
def Oo(zs:List ag):List Bs:=(aV zs).filter fun a=> !(mj zs).contains a
/-! ### Least loops -/
def mo(be:List (Bs×Bs))(n:Bs):Bool:=be.any fun p=>p.1==n
def ov(be:List (Bs×Bs))(n:Bs):Bs:=match be.find? (fun p=>p.1==n)with | some p=>p.2 | none=>[]
def dm(zone at_:Bs):List Bs->List Bs->List (Bs×Bs)->Bool×List Bs×List (Bs×Bs)
 | [],qu,be=>(false,qu,be)
 | n::t,qu,be=>if n=zone then(true,qu,be)else if mo be n=true then dm zone at_ t qu be else dm zone at_ t (qu++[n]) (be++[(n,at_)])
def yl(zs:List ag)(zone:Bs):Nat->List Bs->List (Bs×Bs)->Option (Bs×List (Bs×Bs))
 | 0,_,_=>none
 | _+1,[],_=>none
 | f+1,a::qu,be=>if (dm zone a (bq zs a) qu be).1=true then some (a,(dm zone a (bq zs a) qu be).2.2)else yl zs zone f (dm zone a (bq zs a) qu be).2.1 (dm zone a (bq zs a) qu be).2.2
def pM(be:List (Bs×Bs))(zone:Bs):Nat->Bs->List Bs
 | 0,_=>[]
 | f+1,last=>if last=zone then[]else ov be last::pM be zone f (ov be last)
def Cb(zs:List ag)(zone:Bs):List Bs:=match yl zs zone (2*(aV zs).length+2) [zone] []with
 | none=>[]
 | some x=>(x.1::pM x.2 zone (x.2.length+1) x.1).reverse
/-! ### Loops of aliases -/
def F7(a:Ans):Bs:=match a.sets.head? with | some s=>(match s.set.data.head? with | some d=>d.text | none=>[]) | none=>[]
def oq(zs:List ag)(s:Bs):Option Bs:=if ((gE zs ⟨s,1⟩).2&&((gE zs ⟨s,1⟩).1.kind==3))=true then some (F7 (gE zs ⟨s,1⟩).1)else none
def jC(zs:List ag):Nat->List Bs->Bs->List Bs×Bool
 | 0,_,_=>([],false)
 | f+1,met,s=>if met.contains s=true then(met.drop (met.idxOf s),true)else match oq zs s with
  | none=>([],false)
  | some n=>jC zs f (met++[s]) n
def gM(zs:List ag):List Bs:=zs.flatMap fun p=>p.zone.sets.flatMap fun s=>s.set.data.map (·.text)
def AZ(zs:List ag)(s:Bs):List Bs×Bool:=jC zs ((gM zs).length+2) [] s
/-! ### What can be reached -/
theorem tc(zs:List ag)(r:List Bs)(a:Bs):(dE zs r a).length=r.length+(if il zs r a=true then 1 else 0):=by
 unfold dE;split <;> simp
theorem s9(zs:List ag):∀(l r:List Bs),r.length<=(ng zs r l).length
 | [],r=>Nat.le_refl _
 | a::l,r=>by
  have h1:=s9 zs l (dE zs r a);have h2:=tc zs r a;show r.length<=(ng zs (dE zs r a) l).length
  omega
theorem zm{zs:List ag}:∀{l r:List Bs},(ng zs r l).length=r.length->ng zs r l=r/\ ∀a∈l,il zs r a=false
 | [],r,h=>⟨rfl,fun a ha=>by cases ha⟩
 | a::l,r,h=>by
  have h:(ng zs (dE zs r a) l).length=r.length:=h;have h1:=s9 zs l (dE zs r a);have h2:=tc zs r a;have hg:il zs r a=false:=by
   cases e:il zs r a with
   | false=>rfl
   | true=>rw[e]at h2;simp at h2;omega
  have he:dE zs r a=r:=by unfold dE;rw[if_neg (by rw[hg];simp)]
  have ih:=zm (zs:=zs) (l:=l) (r:=r) (by rw[he]at h;exact h);refine⟨?_,fun b hb=>?_⟩
  . show ng zs (dE zs r a) l=r
    rw[he];exact ih.1
  . rcases List.mem_cons.1 hb with rfl | hb
    . exact hg
    . exact ih.2 b hb
theorem xH{r:um}{f g:Bs->Bool}(h:∀x,f x=true->g x=true)(ho:ou r f=true):ou r g=true:=by
 unfold ou at ho ⊢;simp only[aP,Bool.or_eq_true]at ho ⊢;refine⟨⟨ho.1.1,h _ ho.1.2⟩,?_⟩;rcases ho.2 with h1 | h1
 . exact .inl h1
 . obtain⟨x,hx,hf⟩:=List.any_eq_true.1 h1;exact .inr (List.any_eq_true.2 ⟨x,hx,h x hf⟩)
structure Reach(zs:List ag)(r:List Bs):Prop where
 nodup:r.Nodup
 sub:∀a∈r,a∈aV zs
 why:∀a∈r,a=[46]\/ou (jd zs a) r.contains=true
theorem Reach.nil(zs:List ag):Reach zs []:=⟨List.nodup_nil,(fun a h=>by cases h),(fun a h=>by cases h)⟩
theorem Reach.step{zs:List ag}{r:List Bs}{a:Bs}(h:Reach zs r)(ha:a∈aV zs):Reach zs (dE zs r a):=by
 unfold dE;split
 . rename_i hg;unfold il at hg;simp only[aP,Bool.not_eq_true',Bool.or_eq_true,beq_iff_eq]at hg;have hna:a ∉ r:=fun hm=>by have:=hg.1;simp[hm]at this
   have hmono:∀x,r.contains x=true->(r++[a]).contains x=true:=fun x hx=>by
    simp only[c8,List.mem_append]at hx ⊢;exact .inl hx
   refine⟨List.nodup_append.2 ⟨h.nodup,by simp,fun x hx y hy=>by rw[List.mem_singleton]at hy;subst hy;rintro rfl;exact hna hx⟩,fun x hx=>?_,fun x hx=>?_⟩
   . rcases List.mem_append.1 hx with hx | hx
     . exact h.sub x hx
     . rw[List.mem_singleton.1 hx];exact ha
   . rcases List.mem_append.1 hx with hx | hx
     . rcases h.why x hx with h1 | h1
       . exact .inl h1
       . exact .inr (xH hmono h1)
     . rw[List.mem_singleton.1 hx];rcases hg.2 with h1 | h1
       . exact .inl h1
       . exact .inr (xH hmono h1)
 . exact h
theorem Reach.grow{zs:List ag}:∀{l r:List Bs},Reach zs r->(∀a∈l,a∈aV zs)->Reach zs (ng zs r l)
 | [],r,h,_=>h
 | a::l,r,h,hl=>Reach.grow (l:=l) (h.step (hl a (List.mem_cons_self ..))) fun b hb=>hl b (aW _ hb)
theorem jv:∀{l m:List Bs},l.Nodup->(∀a∈l,a∈m)->l.length<=m.length
 | [],m,_,_=>Nat.zero_le _
 | a::l,m,h,hs=>by
  obtain⟨h1,h2⟩:=List.nodup_cons.1 h;have ha:=hs a (List.mem_cons_self ..);have:=jv (l:=l) (m:=m.erase a) h2 fun b hb=>(List.mem_erase_of_ne (fun(e:b=a)=>h1 (e ▸ hb))).2 (hs b (aW _ hb))
  rw[List.length_erase_of_mem ha]at this;have hp:=List.length_pos_of_mem ha;simp only[List.length_cons];omega
theorem Reach.len{zs:List ag}{r:List Bs}(h:Reach zs r):r.length<=(aV zs).length:=jv h.nodup h.sub
theorem Reach.next{zs:List ag}{r:List Bs}(h:Reach zs r):Reach zs (iF zs r):=Reach.grow h fun a ha=>ha
theorem xO{zs:List ag}{r:List Bs}(h:iF zs r=r):∀k,tK zs k r=r
 | 0=>rfl
 | k+1=>by rw[tK,h];exact xO h k
theorem M5{zs:List ag}(hg:eP zs){s n:Bs}(hs:aj s=true)(h:oq zs s=some n):aj n=true/\n∈gM zs/\ ∃a t R d,gE zs ⟨s,1⟩=(a,true)/\a.kind=3/\a.sets=t::R/\t.set.data=[d]/\d.text=n:=by
 unfold oq at h;split at h
 . rename_i hc;simp only[aP,beq_iff_eq]at hc;cases hr:gE zs ⟨s,1⟩with
   | mk a ok =>
    rw[hr]at hc h;obtain⟨rfl,hk⟩:=hc;obtain⟨p,hp,u,rfl,_⟩:=CC hg (IX hs) hr;obtain⟨t,R,d,h1,h2,h3,h4,h5⟩:=u.NJ hk;have e:F7 (bG p.zone ⟨s,1⟩).1=d.text:=by unfold F7;rw[h1];simp[h4]
    rw[e]at h;cases h;refine⟨h5,?_,_,t,R,d,rfl,hk,h1,h4,rfl⟩;unfold gM;exact List.mem_flatMap.2 ⟨p,hp,List.mem_flatMap.2 ⟨t,h2,List.mem_map.2 ⟨d,by rw[h4];exact List.mem_cons_self .., rfl⟩⟩⟩
 . cases h
def Fc(zs:List ag)(met:List Bs)(s:Bs):Prop:= ∀(i:Nat) n,met[i]? =some n-> ∃m,(met++[s])[i+1]? =some m/\oq zs n=some m
theorem Fc.next{zs:List ag}{met:List Bs}{s n:Bs}(h:Fc zs met s)(hl:oq zs s=some n):Fc zs (met++[s]) n:=fun i m hi=>by
 by_cases hlt:i<met.length
 . rw[bM hlt]at hi;obtain⟨x,hx,hxl⟩:=h i m hi;refine⟨x,?_,hxl⟩;rw[bM (by simp;omega)];exact hx
 . have:i=met.length:=by
    have:=(ar.1 hi).1;simp at this;omega
   subst this;rw[bQ (Nat.le_refl _),Nat.sub_self]at hi;cases hi;refine⟨n,?_,hl⟩;rw[bQ (by simp)];simp
section
variable {zs zs' :List ag} (h:∀a,(bX zs a).map (·.2)=(bX zs' a).map (·.2))
include h
end
theorem zE{l:List Bs}(h:l.Nodup){i j:Nat}{a:Bs}(hi:l[i]? =some a)(hj:l[j]? =some a):i=j:=by
 obtain⟨b1,e1⟩:=ar.1 hi;obtain⟨b2,e2⟩:=ar.1 hj;have hp:=List.pairwise_iff_getElem.1 h;rcases Nat.lt_trichotomy i j with hlt | rfl | hlt
 . exact absurd (e1.trans e2.symm) (hp i j b1 b2 hlt)
 . rfl
 . exact absurd (e2.trans e1.symm) (hp j i b2 b1 hlt)
structure iG(zs:List ag)(zone:Bs)(P Q:List Bs)(be:List (Bs×Bs))(ds:List Nat):Prop where
 all:P++Q=zone::be.map (·.1)
 nodup:(zone::be.map (·.1)).Nodup
 len:ds.length=be.length+1
 zero:ds[0]? =some 0
 mono:ds.Pairwise (· <= ·)
 near:∀(j:Nat) d d0,ds[j]? =some d->ds[P.length]? =some d0->d<=d0+1
 par:∀(j:Nat) n a,be[j]? =some (n,a)->n∈bq zs a/\ ∃i d:Nat,i<=j/\(zone::be.map (·.1))[i]? =some a/\ds[i]? =some d/\ds[j+1]? =some (d+1)
 done:∀(i:Nat) a,i<P.length->(P++Q)[i]? =some a->zone ∉ bq zs a/\ ∀n∈bq zs a,∃j d d' :Nat,(P++Q)[j]? =some n/\ds[i]? =some d/\ds[j]? =some d' /\d' <=d+1
 keys:∀p∈be,p.1∈aV zs
theorem iG.start(zs:List ag)(zone:Bs):iG zs zone [] [zone] [] [0] :=
 ⟨rfl,by simp,rfl,rfl,by simp,fun j d d0 hj h0=>by
  rcases j with _ | j
  . cases hj;omega
  . simp at hj,fun j n a h=>by simp at h,fun i a h=>by simp at h,fun p hp=>by cases hp⟩
theorem wJ{be:List (Bs×Bs)}{n:Bs}:mo be n=true ↔ n∈be.map (·.1):=by
 unfold mo;rw[List.any_eq_true,List.mem_map];constructor
 . rintro⟨p,hp,he⟩;exact⟨p,hp,by simpa using he⟩
 . rintro⟨p,hp,rfl⟩;exact⟨p,hp,by simp⟩
theorem iG.push{zs:List ag}{zone a n:Bs}{P qu:List Bs}{be:List (Bs×Bs)}{ds:List Nat}(h:iG zs zone P (a::qu) be ds)(hn:n∈bq zs a)(hz:n ≠ zone)(hs:mo be n=false)(hk:n∈aV zs) :
 ∃d0,ds[P.length]? =some d0/\iG zs zone P (a::(qu++[n])) (be++[(n,a)]) (ds++[d0+1])/\(P++a::(qu++[n]))[be.length+1]? =some n/\(ds++[d0+1])[be.length+1]? =some (d0+1):=by
 have hpl:P.length<ds.length:=by
  have:=congrArg List.length h.all;simp at this;rw[h.len];omega
 obtain⟨d0,hd0⟩:∃d0,ds[P.length]? =some d0:=⟨_,ai hpl⟩
 have hall:P++a::(qu++[n])=zone::(be++[(n,a)]).map (·.1):=by
  have:P++a::(qu++[n])=(P++a::qu)++[n]:=by simp
  rw[this,h.all];simp
 have hold:∀{j:Nat} {d:Nat},ds[j]? =some d->(ds++[d0+1])[j]? =some d:=fun{j d} hj=>by
  rw[bM (ar.1 hj).1];exact hj
 have hLa:(P++a::qu)[P.length]? =some a:=by rw[bQ (Nat.le_refl _)];simp
 have hlast:(ds++[d0+1])[be.length+1]? =some (d0+1):=by rw[<- h.len];simp
 have hLold:∀{j:Nat} {x:Bs},(P++a::qu)[j]? =some x->(P++a::(qu++[n]))[j]? =some x:=fun{j x} hj=>by
  have:P++a::(qu++[n])=(P++a::qu)++[n]:=by simp
  rw[this,bM (ar.1 hj).1];exact hj
 have hlen1:(P++a::qu).length=be.length+1:=by rw[h.all];simp
 have hLn:(P++a::(qu++[n]))[be.length+1]? =some n:=by
  have:P++a::(qu++[n])=(P++a::qu)++[n]:=by simp
  rw[this, <- hlen1];simp
 have hnk:n ∉ be.map (·.1):=fun hm=>by rw[wJ.2 hm]at hs;cases hs
 refine⟨d0,hd0,⟨hall,?_,by simp[h.len],hold h.zero,?_,fun j d e hj he=>?_,fun j m b hj=>?_,fun i b hi hb=>?_,fun p hp=>?_⟩,hLn,hlast⟩
 . rw[List.map_append];show((zone::be.map (·.1))++[n]).Nodup
   refine List.nodup_append.2 ⟨h.nodup,by simp,fun x hx y hy=>?_⟩;rw[List.mem_singleton]at hy;subst hy;rintro rfl;rcases List.mem_cons.1 hx with hx | hx
   . exact hz hx
   . exact hnk hx
 . refine List.pairwise_append.2 ⟨h.mono,by simp,fun x hx y hy=>?_⟩;rw[List.mem_singleton]at hy;subst hy;obtain⟨j,hj⟩:=b5 hx;exact h.near j x d0 hj hd0
 . rw[hold hd0]at he;cases he;by_cases hl:j<ds.length
   . rw[bM hl]at hj;exact h.near j d d0 hj hd0
   . have:j=ds.length:=by
      have:=(ar.1 hj).1;simp at this;omega
     subst this;simp at hj;omega
 . by_cases hl:j<be.length
   . rw[bM hl]at hj;obtain⟨h1,i,d,h2,h3,h4,h5⟩:=h.par j m b hj;refine⟨h1,i,d,h2,?_,hold h4,hold h5⟩;rw[<- hall];rw[<- h.all]at h3;exact hLold h3
   . have:j=be.length:=by
      have:=(ar.1 hj).1;simp at this;omega
     subst this;rw[bQ (Nat.le_refl _),Nat.sub_self]at hj;cases hj;refine⟨hn,P.length,d0,?_,?_,hold hd0,hlast⟩
     . rw[h.len]at hpl;omega
     . rw[<- hall];exact hLold hLa
 . have hb' :(P++a::qu)[i]? =some b:=by
    rw[bM hi]at hb ⊢;exact hb
   obtain⟨h1,h2⟩:=h.done i b hi hb';refine⟨h1,fun m hm=>?_⟩;obtain⟨j,d,d',e1,e2,e3,e4⟩:=h2 m hm;exact⟨j,d,d',hLold e1,hold e2,hold e3,e4⟩
 . rcases List.mem_append.1 hp with hp | hp
   . exact h.keys p hp
   . rw[List.mem_singleton.1 hp];exact hk
theorem yQ{zs:List ag}{zone a:Bs}(hkeys:∀n∈bq zs a,n∈aV zs){P:List Bs}:∀(t qu:List Bs) (be:List (Bs×Bs)) (ds:List Nat),iG zs zone P (a::qu) be ds->(∀n∈t,n∈bq zs a) ->
 ∃ds',iG zs zone P (a::(dm zone a t qu be).2.1) (dm zone a t qu be).2.2 ds' /\((dm zone a t qu be).1=true->zone∈t) /\
  ((dm zone a t qu be).1=false->zone ∉ t/\ ∀n∈t,∃j d d' :Nat,(P++a::(dm zone a t qu be).2.1)[j]? =some n/\ds'[P.length]? =some d/\ds'[j]? =some d' /\d' <=d+1) /\
  ((dm zone a t qu be).2.1.length+be.length=(dm zone a t qu be).2.2.length+qu.length) /\
  (∀(j:Nat) x,(P++a::qu)[j]? =some x->(P++a::(dm zone a t qu be).2.1)[j]? =some x)/\(∀(j:Nat) d,ds[j]? =some d->ds'[j]? =some d)
 | [],qu,be,ds,h,_=>⟨ds,h,fun e=>(by cases e),fun _=>⟨by simp,fun n hn=>by cases hn⟩,(by show qu.length+be.length=be.length+qu.length;omega),fun j x h=>h,fun j d h=>h⟩
 | n::t,qu,be,ds,h,ht=>by
  have hn:=ht n (List.mem_cons_self ..);have ht' :∀m∈t,m∈bq zs a:=fun m hm=>ht m (aW _ hm)
  unfold dm;by_cases hz:n=zone
  . rw[if_pos hz];exact⟨ds,h,fun _=>hz ▸ List.mem_cons_self .., fun e=>(by cases e),(by show qu.length+be.length=be.length+qu.length;omega),fun j x h=>h,fun j d h=>h⟩
  . rw[if_neg hz];have hpl:P.length<ds.length:=by
     have:=congrArg List.length h.all;simp at this;rw[h.len];omega
    obtain⟨d0,hd0⟩:∃d0,ds[P.length]? =some d0:=⟨_,ai hpl⟩
    by_cases hs:mo be n=true
    . rw[if_pos hs];obtain⟨ds',i1,i2,i3,i4,i5,i6⟩:=yQ hkeys t qu be ds h ht';refine⟨ds',i1,fun e=>aW _ (i2 e),fun e=>?_,i4,i5,i6⟩;obtain⟨j1,j2⟩:=i3 e;refine⟨fun hm=>?_,fun m hm=>?_⟩
      . rcases List.mem_cons.1 hm with hm | hm
        . exact hz hm.symm
        . exact j1 hm
      . rcases List.mem_cons.1 hm with rfl | hm
        . obtain⟨j,hj⟩:=b5 (wJ.1 hs);have hL:(P++a::qu)[j+1]? =some m:=by rw[h.all];simpa using hj
          have hjl:j+1<ds.length:=by
           have:=(ar.1 hj).1;simp at this;rw[h.len];omega
          obtain⟨d',hd'⟩:∃d',ds[j+1]? =some d' :=⟨_,ai hjl⟩
          exact⟨j+1,d0,d',i5 _ _ hL,i6 _ _ hd0,i6 _ _ hd',h.near _ _ _ hd' hd0⟩
        . exact j2 m hm
    . rw[if_neg hs];obtain⟨d0',e1,e2,e3,e4⟩:=h.push hn hz (by simpa using hs) (hkeys n hn);rw[hd0]at e1;cases e1;obtain⟨ds',i1,i2,i3,i4,i5,i6⟩:=yQ hkeys t (qu++[n]) (be++[(n,a)]) (ds++[d0+1]) e2 ht';have hold:∀(j:Nat) d,ds[j]? =some d->ds'[j]? =some d:=fun j d hj=>i6 j d (by rw[bM (ar.1 hj).1];exact hj)
      refine⟨ds',i1,fun e=>aW _ (i2 e),fun e=>?_,?_,fun j x hj=>i5 j x ?_,hold⟩
      . obtain⟨j1,j2⟩:=i3 e;refine⟨fun hm=>?_,fun m hm=>?_⟩
        . rcases List.mem_cons.1 hm with hm | hm
          . exact hz hm.symm
          . exact j1 hm
        . rcases List.mem_cons.1 hm with rfl | hm
          . exact⟨be.length+1,d0,d0+1,i5 _ _ e3,hold _ _ hd0,i6 _ _ e4,Nat.le_refl _⟩
          . exact j2 m hm
      . simp at i4;omega
      . have:P++a::(qu++[n])=(P++a::qu)++[n]:=by simp
        rw[this,bM (ar.1 hj).1];exact hj
theorem iG.next{zs:List ag}{zone a:Bs}{P qu:List Bs}{be:List (Bs×Bs)}{ds:List Nat}(h:iG zs zone P (a::qu) be ds)(hz:zone ∉ bq zs a)
 (hn:∀n∈bq zs a,∃j d d' :Nat,(P++a::qu)[j]? =some n/\ds[P.length]? =some d/\ds[j]? =some d' /\d' <=d+1):iG zs zone (P++[a]) qu be ds:=by
 have e:(P++[a])++qu=P++a::qu:=by simp
 refine⟨by rw[e];exact h.all,h.nodup,h.len,h.zero,h.mono,fun j d d1 hj h1=>?_,h.par,fun i b hi hb=>?_,h.keys⟩
 . have hl:(P++[a]).length=P.length+1:=by simp
   rw[hl]at h1;have hlt:=(ar.1 h1).1;have h0:ds[P.length]? =some ds[P.length]:=ai (by omega);have h2:=h.near j d _ hj h0;have h3:ds[P.length]<=ds[P.length+1]:=List.pairwise_iff_getElem.1 h.mono _ _ (by omega) hlt (by omega);have h4:ds[P.length+1]=d1:=(ar.1 h1).2;omega
 . rw[e]at hb ⊢;by_cases hl:i<P.length
   . exact h.done i b hl hb
   . have:i=P.length:=by simp at hi;omega
     subst this;have:b=a:=by
      rw[bQ (Nat.le_refl _),Nat.sub_self]at hb;cases hb;rfl
     subst this;exact⟨hz,hn⟩
theorem iG.Bb{zs:List ag}{zone:Bs}{P Q:List Bs}{be:List (Bs×Bs)}{ds:List Nat}(h:iG zs zone P Q be ds):be.length<=(aV zs).length:=by
 have h1:(be.map (·.1)).Nodup:=(List.nodup_cons.1 h.nodup).2;have:=jv h1 (m:=aV zs) fun a ha=>by
  obtain⟨p,hp,rfl⟩:=List.mem_map.1 ha;exact h.keys p hp
 simpa using this
theorem Nn{zs:List ag}{zone:Bs}{P Q:List Bs}{be:List (Bs×Bs)}{ds:List Nat}(h:iG zs zone P Q be ds){j:Nat}{n a:Bs}(hj:be[j]? =some (n,a)):ov be n=a:=by
 unfold ov;have hnd:(be.map (·.1)).Nodup:=(List.nodup_cons.1 h.nodup).2;cases hf:be.find? (fun p=>p.1==n)with
 | none =>
  have:=List.find?_eq_none.1 hf (n,a) (aq hj);simp at this
 | some p =>
  have h1:=List.mem_of_find?_eq_some hf;have h2:p.1=n:=by have:=List.find?_some hf;simpa using this
  obtain⟨i,hi⟩:=b5 h1;have hij:i=j:=by
   have a1:(be.map (·.1))[i]? =some n:=by rw[aT,hi];simp[h2]
   have a2:(be.map (·.1))[j]? =some n:=by rw[aT,hj];rfl
   exact zE hnd a1 a2
  subst hij;rw[hi]at hj;cases hj;rfl
/-! ### gN -/
theorem Hz{zs:List ag}{s:Bs}(hs:aj s=true)(hz:∀p∈zs,aj p.zone.apex=true):(py zs (-1) s []).map (fun x=>x.2.zone.apex)=ff zs s:=by
 have sp:=rA zs hs;cases hd:py zs (-1) s []with
 | none =>
  unfold py at hd;rw[pq]at hd;cases hF:ff zs s with
  | none=>rfl
  | some h =>
   rw[hF]at sp;obtain⟨x,hx⟩:=Option.isSome_iff_exists.1 sp.1;obtain⟨h1,h2⟩:=ky hx;have:=hd.2 x.2 h1;rw[rl (hz _ h1),h2,sp.2.1]at this;cases this
 | some x =>
  obtain⟨h1,h2,h3⟩:=Kn hd;rw[rl (hz _ h1)]at h2;have hxs:(bX zs x.2.zone.apex).isSome=true:=by
   cases hc:bX zs x.2.zone.apex with
   | none=>exact absurd rfl (Ht.1 hc x.2 h1)
   | some y=>rfl
  cases hF:ff zs s with
  | none =>
   rw[hF]at sp;have:=sp _ hxs;rw[h2]at this;cases this
  | some h =>
   rw[hF]at sp;obtain⟨y,hy⟩:=Option.isSome_iff_exists.1 sp.1;obtain⟨g1,g2⟩:=ky hy;have hle:=h3 y.2 g1 (by rw[rl (hz _ g1),g2];exact sp.2.1);have u1:aG x.2.zone.apex h=true:=Az sp.2.1 h2 (by unfold yB at hle;rw[g2]at hle;exact hle);have u2:=sp.2.2 _ hxs h2;exact congrArg some (oE u1 u2)
theorem FW{w:bJ}{s:Bs}(hval:cF w=true)(hs:aj s=true):iW true w s=match ff w.zones s with | some h=>(h,0) | none=>([],4):=by
 have hz:∀p∈w.zones,aj p.zone.apex=true:=fun p hp=>(bz (pj hval p hp).1).apex
 have hh:iW true w s=if (toH (py w.zones (-1) s [])).2<0 then([],4)else((toH (py w.zones (-1) s [])).1,0):=by
  unfold iW;rw[if_neg (by rw[hs];simp),Io hs hz]
 rw[hh, <- Hz hs hz];cases py w.zones (-1) s []with
 | none=>rfl
 | some x =>
  have:=(BA x.2.zone.apex).1;rw[if_neg (by show ¬fk x.2.zone.apex<0;omega)];rfl
/-! ### Apexes in order,each once -/
theorem FD(zs : List ag)(a x : Bs)(f : Nat) : (jo zs ⟨a, 2⟩ (f + 1) x).find? (fX a) = match bX zs x with
  | none=>none
  | some y=>if ((bG y.2.zone ⟨a,2⟩).1.kind != 4)=true then none else if ((bG y.2.zone ⟨a,2⟩).1.cut==a)=true then some (x,(bG y.2.zone ⟨a,2⟩).1)else(jo zs ⟨a,2⟩ f (bG y.2.zone ⟨a,2⟩).1.cut).find? (fX a):=by
 cases h:bX zs x with
 | none=>rw[lD h];rfl
 | some y =>
  rw[lE h];dsimp only;cases hk:((bG y.2.zone ⟨a,2⟩).1.kind != 4)with
  | true =>
   have hk' :((bG y.2.zone ⟨a,2⟩).1.kind==4)=false:=by simpa [bne] using hk
   rw[if_pos rfl,if_pos rfl,List.find?_cons_of_neg (by unfold fX;rw[hk'];simp)];rfl
  | false =>
   have hk' :((bG y.2.zone ⟨a,2⟩).1.kind==4)=true:=by simpa [bne] using hk
   rw[if_neg (by simp),if_neg (by simp)];cases hc:((bG y.2.zone ⟨a,2⟩).1.cut==a)with
   | true=>rw[if_pos rfl,List.find?_cons_of_pos (by unfold fX;rw[hk',hc];rfl)]
   | false=>rw[if_neg (by simp),List.find?_cons_of_neg (by unfold fX;rw[hk',hc];simp)]
/-! ### Names in a map -/
def eZ(r:List Bs):List (Bs×D):=r.map fun a=>(a, .bool true)
theorem mq(a:Bs):∀r:List Bs,cG a (eZ r)=if r.contains a=true then some (.bool true)else none
 | []=>rfl
 | b::t=>by
  show(if a=b then _ else cG a (eZ t))=_
  rw[mq a t,List.contains_cons];by_cases h:a=b
  . subst h;simp
  . rw[if_neg h,show(a==b)=false by simpa using h,az]
theorem tR{a:Bs}:∀{r:List Bs},r.contains a=false->cH a (.bool true) (eZ r)=eZ (r++[a])
 | [],_=>rfl
 | b::t,h=>by
  rw[List.contains_cons,Bool.or_eq_false_iff]at h;have hne:¬a=b:=by simpa using h.1
  show(if a=b then _ else(b,_)::cH a _ (eZ t))=_
  rw[if_neg hne,tR h.2];rfl
theorem xU{a:Bs}:∀{r:List Bs},r.contains a=true->cH a (.bool true) (eZ r)=eZ r
 | [],h=>by simp at h
 | b::t,h=>by
  show(if a=b then _ else(b,_)::cH a _ (eZ t))=_
  by_cases e:a=b
  . rw[if_pos e, <- e];rfl
  . rw[if_neg e,xU (by rw[List.contains_cons,show(a==b)=false by simpa using e,az]at h;exact h)];rfl
def sA(r:List Bs)(a:Bs):List Bs:=if r.contains a=true then r else r++[a]
theorem Ja(r:List Bs)(a:Bs):cH a (.bool true) (eZ r)=eZ (sA r a):=by
 unfold sA;cases h:r.contains a with
 | true=>rw[if_pos rfl,xU h]
 | false=>rw[if_neg (by simp),tR h]
def cY(l r:List Bs):List Bs:=l.foldl sA r
theorem y4:∀(l r:List Bs),r.Nodup->(cY l r).Nodup/\ ∀x,x∈cY l r ↔ x∈r\/x∈l
 | [],r,h=>⟨h,fun x=>by simp[cY]⟩
 | a::t,r,h=>by
  have h1:(sA r a).Nodup/\ ∀x,x∈sA r a ↔ x∈r\/x=a:=by
   unfold sA;by_cases hc:r.contains a=true
   . rw[if_pos hc];have hm:=c8.1 hc;exact⟨h,fun x=>⟨.inl,fun h=>h.elim id fun e=>e ▸ hm⟩⟩
   . rw[if_neg hc];have hm:a ∉ r:=fun e=>hc (c8.2 e)
     refine⟨?_,fun x=>by simp⟩;rw[List.nodup_append];exact⟨h,by simp,fun x hx y hy=>by rw[List.mem_singleton]at hy;subst hy;exact fun e=>hm (e ▸ hx)⟩
  obtain⟨k1,k2⟩:=y4 t (sA r a) h1.1;refine⟨k1,fun x=>(k2 x).trans ?_⟩;rw[h1.2,List.mem_cons];exact or_assoc
theorem Lu{l m:List Bs}(h1:l.Nodup)(h2:m.Nodup)(h:∀x,x∈l ↔ x∈m):l.length=m.length:=((List.perm_ext_iff_of_nodup h1 h2).2 h).length_eq
theorem M8{zs:List ag}{a:Bs}{p:Bs×Ans}(h:cK zs a=some p):(cY (eG zs p.2 (cE p.2)) []).length=(bq zs a).length/\ ∀x∈bq zs a,(cY (eG zs p.2 (cE p.2)) []).contains x=true:=by
 obtain⟨k1,k2⟩:=y4 (eG zs p.2 (cE p.2)) [] List.nodup_nil;have hm:∀x,x∈cY (eG zs p.2 (cE p.2)) [] ↔ x∈bq zs a:=fun x=>by
  rw[k2];unfold bq;rw[h];dsimp only;rw[uZ,tA];simp
 exact⟨Lu k1 (qi zs a) hm,fun x hx=>c8.2 ((hm x).2 hx)⟩
/-! ### What can be reached -/
def qt(w:bJ)(s:Bs):List Bs×Bool×Int:=if (cF w&&aj s)=false then([],false,1)else((AZ w.zones s).1,(AZ w.zones s).2,0)
def dS(w:bJ)(a:Bs):Int:=if (cF w&&aj a)=false then 1 else if (bX w.zones a).isSome=true then 0 else 4
def mg(w:bJ)(a:Bs):List Bs×Int:=if dS w a=0 then(bq w.zones a,0)else([],dS w a)
def tu(w:bJ)(a:Bs):List Bs×Bool×Int:=if dS w a=0 then(Cb w.zones a,decide (0<(Cb w.zones a).length),0)else([],false,dS w a)
def uj(w:bJ):List Bs×Int:=if cF w=true then(Oo w.zones,0)else([],1)
theorem l7{w:bJ}{a:Bs}(h:dS w a=0):cF w=true/\aj a=true/\(bX w.zones a).isSome=true:=by
 unfold dS at h;split at h
 . cases h
 . rename_i h1;split at h
   . rename_i h2;simp only[Bool.not_eq_false,aP]at h1;exact⟨h1.1,h1.2,h2⟩
   . cases h
theorem xo{w:bJ}(hF:kR w)(hv:cF w=true):eP w.zones:=fun p hp=>⟨hF.few p hp,(pj hv p hp).1⟩
def exS(n:Bs)(t:Int)(d:Datum):Signed:=⟨⟨n,t,0,[d]⟩,[]⟩
def tx(b:Bs):Datum:=⟨b,0,0⟩
def GW(a host:Bs)(l:List Signed):aQ:=⟨a,exS a 2 (tx host)::exS a 4 ⟨[],1,0⟩::l⟩
def OG:aQ:=GW [46] [97] [exS [120] 2 (tx [104,46,121]),exS [121] 2 (tx [104,46,120])]
def xL:aQ:=GW [120] [104,46,121] [exS [108,46,120] 3 (tx [109,46,120]),exS [109,46,120] 3 (tx [108,46,120])]
def yL:aQ:=GW [121] [104,46,120] []
def exL:bJ:=⟨[⟨[97],1,0⟩],[⟨0,OG⟩,⟨0,xL⟩,⟨0,yL⟩],⟨[46],6,0,[⟨[],1,1⟩]⟩,[1]⟩
def exN:bJ:=⟨[],[],⟨[],0,0,[]⟩,[]⟩
theorem oH:kR exL:=⟨by decide,by decide,by decide,fun p hp=>by
 rcases List.mem_cons.1 hp with rfl | hp
 . kernel_rfl
 . rcases List.mem_cons.1 hp with rfl | hp
   . kernel_rfl
   . rcases List.mem_cons.1 hp with rfl | hp
     . kernel_rfl
     . cases hp⟩
theorem MH:kR exN:=⟨by decide,by decide,by decide,fun p hp=>by cases hp⟩
theorem H0:qt exL [108,46,120]=([[108,46,120],[109,46,120]],true,0):=by kernel_rfl
theorem Ku:qt exL [120]=([],false,0):=by kernel_rfl
theorem H3:mg exL [120]=([[121]],0):=by kernel_rfl
theorem H4:uj exL=([[120],[121]],0):=by kernel_rfl
theorem H2:tu exL [120]=([[120],[121]],true,0):=by kernel_rfl
theorem NT:mg exL [122]=([],4):=by kernel_rfl
theorem H5:uj exN=([],1):=by kernel_rfl
def By:Option (Bs×Ans)->Ans×Bs×Bool
 | some p=>(p.2,p.1,true)
 | none=>(lp,[],false)
def pA(w:bJ):Bool:=mL w&&decide ((w.zones.length:Int)<=12)
end NP
namespace Go.Proofs.YtjapjahfllomkaaGreatDoor
open NQ Go NP Go.RowKit
theorem HH(w:bJ)(a:Bs)(hg:eP w.zones)(ha:aj a=true)(hl:w.zones.length<=100000) :
 NQ.Fn cx 30 [.agg (cv w), .str a] (.tuple [.agg ((dw (By (cK w.zones a)).1).map .d), .d (.str (By (cK w.zones a)).2.1), .d (.bool (By (cK w.zones a)).2.2)]) []:=by
 have hz:∀p∈w.zones,bE p.zone=true:=fun p hp=>(hg p hp).2
 refine cR (fun | 8=>[66666] | _=>[]) bf mixed Tryz.func30 (by kernel_rfl) rfl (ah rfl) ?_
 conv=>whnf
 (refine⟨_,_,Bq w.zones [46] hz hl,?_⟩;conv=>whnf)
 refine⟨Nat×Bs,fun x=>⟨[(1, .d (.str a)),(2, .ptr 2 0),(4, .ptr 4 0),(7, .d (.int .i64 (Lf (bX w.zones x.2))))],[(2, .box ((cv w).map .d)),(4, .box [.d (.int .i64 0), .nil 5, .d (.str [])])]⟩,
  fun x=>aG a x.2=true/\(back a).length+1<=x.1+(back x.2).length/\(a ≠ [46]->(jo w.zones ⟨a,2⟩ (x.1+1) x.2).find? (fX a)=cK w.zones a),fun x=>x.1,
  ⟨((back a).length+1,[46]),⟨iP a,by dsimp only;omega,fun hne=>by unfold cK iC;rw[if_neg hne]⟩,an.keep ⟨⟨rfl,rfl⟩,⟨rfl,rfl⟩,⟨rfl,rfl⟩,⟨rfl,rfl⟩,trivial⟩ ⟨⟨rfl,rfl⟩,⟨rfl,rfl⟩,trivial⟩⟩,fun⟨f,b⟩ ⟨hu,hf,hinv⟩=>?_⟩
 dsimp only at hu hf hinv ⊢;rw[FD]at hinv;by_cases h46:a=[46]
 . have e:cK w.zones a=none:=by unfold cK;rw[if_pos h46]
   rw[e];cases hc:bX w.zones b with
   | none =>
    conv=>whnf
    exact af rfl rfl
   | some x =>
    subst h46
    conv=>whnf
    exact af rfl rfl
 have hinv:=hinv h46;cases hc:bX w.zones b with
 | none =>
  rw[hc]at hinv;rw[<- hinv]
  conv=>whnf
  exact af rfl rfl
 | some x =>
  rw[hc]at hinv;dsimp only at hinv;have hx:=v7 _ b x hc;have u:=qV (q:=⟨a,2⟩) hg (xM ha) hu hc
  conv=>whnf
  refine ae (fun h1=>?_) (fun h1=>?_) <;> (rw[h1];conv=>whnf)
  case refine_2=>exact absurd (by simpa using h1) h46
  refine⟨aH x.1,b7 x.2,aU hx,?_⟩
  conv=>whnf
  (refine⟨_,_,Np x.2.zone ⟨a,2⟩ u.few,?_⟩;conv=>whnf)
  refine ae (fun h2=>?_) (fun h2=>?_) <;> (rw[h2];conv=>whnf)
  . have h2' :((bG x.2.zone ⟨a,2⟩).1.kind != 4)=true:=h2;rw[if_pos h2']at hinv;rw[<- hinv];exact af rfl rfl
  . have h2' :((bG x.2.zone ⟨a,2⟩).1.kind != 4)=false:=h2;rw[if_neg (by rw[h2'];simp)]at hinv;refine ae (fun h3=>?_) (fun h3=>?_) <;> (rw[h3];conv=>whnf)
    . have h3' :((bG x.2.zone ⟨a,2⟩).1.cut==a)=true:=h3;rw[if_pos h3']at hinv;rw[<- hinv];have ea:=(ky hc).2
      (refine⟨(by kernel_rfl:gV _=true),?_⟩;conv=>whnf)
      repeat' (first
       | (exact af rfl (by rw[<- ea];rfl))
       | (refine⟨by kernel_rfl,?_⟩;conv=>whnf)
       | (refine⟨?_,?_⟩ <;> (conv=>whnf))
       | fail)
    . have h3' :((bG x.2.zone ⟨a,2⟩).1.cut==a)=false:=h3;rw[if_neg (by rw[h3'];simp)]at hinv;obtain⟨d1,d2,_⟩:=gJ u h2';rw[(ky hc).2]at d2;have hbl:(back (bG x.2.zone ⟨a,2⟩).1.cut).length<=(back a).length:=((dN _ _).1 d1).length_le;have hf' :(back a).length+1<=f+(back b).length:=hf;obtain⟨f,rfl⟩:∃g,f=g+1:=⟨f-1,by omega⟩
      (refine⟨_,_,Bq w.zones (bG x.2.zone ⟨a,2⟩).1.cut hz hl,?_⟩;conv=>whnf)
      exact⟨(f,(bG x.2.zone ⟨a,2⟩).1.cut),⟨d1,by dsimp only;omega,fun _=>hinv⟩,by(show f<f+1;omega),an.keep ⟨⟨rfl,rfl⟩,⟨rfl,rfl⟩,⟨rfl,rfl⟩,⟨rfl,rfl⟩,trivial⟩ ⟨⟨rfl,rfl⟩,⟨rfl,rfl⟩,trivial⟩⟩
theorem KJ(a:Ans)(n:Bs)(hl:a.sets.length<=100000):NQ.Fn cx 40 [.agg (dw a), .str n] (.d (.bool (eo a n))) []:=by
 refine aO bf mixed Tryz.func40 (by kernel_rfl) rfl (ah rfl) ?_;conv=>whnf
 refine⟨Nat,fun k=>⟨[(1, .d (.str n)),(2, .ptr 2 0),(5, .d (.int .i64 k))],[(2, .box ((dw a).map .d))]⟩,fun k=>k<=a.sets.length/\((a.sets.take k).any fun s=>(s.set.type==1)&&(s.set.name==n))=false,fun k=>a.sets.length-k,
  ⟨0,⟨Nat.zero_le _,rfl⟩,an.keep ⟨⟨rfl,rfl⟩,⟨rfl,rfl⟩,⟨rfl,rfl⟩,trivial⟩ ⟨⟨rfl,rfl⟩,trivial⟩⟩,fun k ⟨hk,hno⟩=>?_⟩
 dsimp only at hk hno ⊢
 conv=>whnf
 refine ae (fun h1=>?_) (fun h1=>?_) <;> (rw[h1];conv=>whnf)
 . have hlt:k<a.sets.length:=by simpa using h1
   obtain⟨s,hs⟩:∃s,a.sets[k]? =some s:=⟨_,ai hlt⟩
   have next:((s.set.type==1)&&(s.set.name==n))=false->((a.sets.take (k+1)).any fun s=>(s.set.type==1)&&(s.set.name==n))=false:=fun h=>by
    rw[bt hs,List.any_append,hno];simp only[List.any_cons,List.any_nil,h];rfl
   refine⟨aH k,aw s,aU hs,?_⟩
   conv=>whnf
   refine ae (fun h2=>?_) (fun h2=>?_) <;> (rw[h2];conv=>whnf)
   case refine_2 =>
    have h2' :(s.set.name==n)=false:=h2;exact⟨k+1,⟨hlt,next (by rw[h2',aB])⟩,by(show a.sets.length-(k+1)<a.sets.length-k;omega),an.keep ⟨⟨rfl,rfl⟩,⟨rfl,rfl⟩,⟨au (by omega),rfl⟩,trivial⟩ ⟨⟨rfl,rfl⟩,trivial⟩⟩
   refine⟨aH k,aw s,aU hs,?_⟩
   conv=>whnf
   refine ae (fun h3=>?_) (fun h3=>?_) <;> (rw[h3];conv=>whnf)
   . have e:eo a n=true:=List.any_eq_true.2 ⟨s,aq hs,by rw[show(s.set.type==1)=true from h3,show(s.set.name==n)=true from h2];rfl⟩;rw[e];exact af rfl rfl
   . have h3' :(s.set.type==1)=false:=h3;exact⟨k+1,⟨hlt,next (by rw[h3',aF])⟩,by(show a.sets.length-(k+1)<a.sets.length-k;omega),an.keep ⟨⟨rfl,rfl⟩,⟨rfl,rfl⟩,⟨au (by omega),rfl⟩,trivial⟩ ⟨⟨rfl,rfl⟩,trivial⟩⟩
 . obtain rfl:k=a.sets.length:=by simp at h1;omega
   rw[List.take_length]at hno;have e:eo a n=false:=hno;rw[e];exact af rfl rfl
theorem DZ(a:Ans)(s0:Signed)(R:List Signed)(hs:a.sets=s0::R)(hl:s0.set.data.length<=100000):NQ.Fn cx 31 [.agg (dw a)] (.d (.slice 1 ((s0.set.data.map (·.text)).map aA))) []:=by
 obtain⟨ak,sets,ac⟩:=a;dsimp only at hs;subst hs;refine aO bf mixed Tryz.func31 (by kernel_rfl) rfl (ah rfl) ?_;conv=>whnf
 refine⟨Nat,fun k=>⟨[(1, .ptr 1 0),(3, .own 3),(4, .d (.int .i64 k))],[(1, .box ((dw ⟨ak,s0::R,ac⟩).map .d)),(3, .row 9 1 (((s0.set.data.take k).map (·.text)).map aA))]⟩,fun k=>k<=s0.set.data.length,fun k=>s0.set.data.length-k,
  ⟨0,Nat.zero_le _,(an.lM 3 3 1 9 1 rfl rfl (by decide)).trans (an.keep ⟨⟨rfl,rfl⟩,⟨rfl,rfl⟩,⟨rfl,rfl⟩,trivial⟩ ⟨⟨rfl,rfl⟩,⟨rfl,rfl⟩,trivial⟩)⟩,fun k hk=>?_⟩
 dsimp only at hk ⊢
 conv=>whnf
 refine⟨by decide,aw s0,rfl,?_⟩
 conv=>whnf
 refine ae (fun h1=>?_) (fun h1=>?_) <;> (rw[h1];conv=>whnf)
 . have hlt:k<s0.set.data.length:=by simpa using h1
   obtain⟨d,hd⟩:∃d,s0.set.data[k]? =some d:=⟨_,ai hlt⟩
   refine⟨by decide,aw s0,rfl,?_⟩
   conv=>whnf
   refine⟨aH k,cz d,aU hd,?_⟩
   conv=>whnf
   refine⟨by(show(((s0.set.data.take k).map (·.text)).map aA).length+1<=_);simp;omega,by(show((((s0.set.data.take k).map (·.text)).map aA).length+1)*16<=_);simp;omega,?_⟩
   conv=>whnf
   refine⟨k+1,hlt,by(show s0.set.data.length-(k+1)<s0.set.data.length-k;omega),an.keep ⟨⟨rfl,rfl⟩,⟨rfl,rfl⟩,⟨au (by omega),rfl⟩,trivial⟩ ⟨⟨rfl,rfl⟩,⟨?_,rfl⟩,trivial⟩⟩;rw[bt hd,List.map_append,List.map_append];rfl
 . obtain rfl:k=s0.set.data.length:=by simp at h1;omega
   rw[List.take_length];exact af rfl rfl
end Go.Proofs.YtjapjahfllomkaaGreatDoor
namespace NP
open NQ Go
end NP
namespace Go.Proofs.YtjapjahfllomkaaGreatDoor
open NQ Go NP Go.RowKit
theorem H6(w:bJ):NQ.Fn cx 71 [.agg (cv w)] (.d (.bool (pA w))) []:=by
 refine aO bf mixed Tryz.func71 (by kernel_rfl) rfl (ah rfl) ?_;conv=>whnf
 (refine⟨_,_,MJ w,?_⟩;conv=>whnf)
 unfold pA;cases hf:mL w with
 | false =>
  conv=>whnf
  exact af rfl rfl
 | true =>
  conv=>whnf
  rw[ao];exact af rfl rfl
end Go.Proofs.YtjapjahfllomkaaGreatDoor
