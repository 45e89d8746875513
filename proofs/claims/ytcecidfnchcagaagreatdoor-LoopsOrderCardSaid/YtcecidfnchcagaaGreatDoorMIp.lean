/-
  Texts of the proof, merged in build order.
-/
import Derived.Test.YtcecidfnchcagaaGreatDoorIaM
import Derived.Test.YtcecidfnchcagaaGreatDoorMGk
import Derived.Lib.SlicesCompact
import Derived.Test.YtcecidfnchcagaaGreatDoorMGa
import Derived.Test.YtcecidfnchcagaaGreatDoorQsoM
import Derived.Test.YtcecidfnchcagaaGreatDoorSortM
import Derived.Test.YtcecidfnchcagaaGreatDoorMVa
import Derived.Test.YtcecidfnchcagaaGreatDoorMQt
set_option linter.all false
set_option maxRecDepth 100000
namespace NP
open NQ Go
/-! ### The way -/
def iK(zs:List ag)(q:aI):Nat->Bs->List (Bs×Ans)
 | 0,_=>[]
 | f+1,a=>match aN zs a with
  | none=>[]
  | some x=>(a,(aY x.2.zone q).1)::(if ((aY x.2.zone q).1.kind != 4)=true then[]else iK zs q f (aY x.2.zone q).1.cut)
def iL(zs:List ag)(q:aI):List (Bs×Ans):=iK zs q ((back q.name).length+2) [46]
def Cv(p:Bs×Ans):List D:=[.str p.1, .agg (dY p.2)]
theorem iM{zs:List ag}{q:aI}{f:Nat}{a:Bs}(h:aN zs a=none):iK zs q f a=[]:=by
 cases f with
 | zero=>rfl
 | succ f=>unfold iK;rw[h]
theorem iN{zs:List ag}{q:aI}{f:Nat}{a:Bs}{x:Nat×ag}(h:aN zs a=some x):iK zs q (f+1) a=(a,(aY x.2.zone q).1)::(if ((aY x.2.zone q).1.kind != 4)=true then[]else iK zs q f (aY x.2.zone q).1.cut):=by
 rw[iK,h]
theorem EG(zs:List ag)(q:aI):∀(f:Nat) (a:Bs),fR zs (bC zs) q f a=match (iK zs q f a).find? (fun p=>p.2.kind != 4)with | some p=>(p.2,true) | none=>(jk,false)
 | 0,a=>rfl
 | f+1,a=>by
  rw[ij];cases h:aN zs a with
  | none=>rw[iM h];rfl
  | some x =>
   rw[iN h];dsimp only;cases hk:((aY x.2.zone q).1.kind != 4)with
   | true=>rw[if_pos rfl,List.find?_cons_of_pos (p:=fun p:Bs×Ans=>p.2.kind != 4) hk]
   | false=>rw[if_neg (by simp),List.find?_cons_of_neg (p:=fun p:Bs×Ans=>p.2.kind != 4) (by simp[hk]),if_neg (by simp)];exact EG zs q f _
theorem kN{zs:List ag}{a:Bs}{x:Nat×ag}(h:aN zs a=some x):x.2∈zs/\x.2.zone.apex=a:=⟨(qF h).1,(qF h).2.1⟩
theorem qm{zs:List ag}{q:aI}(hg:bU zs)(hq:bu q=true){a:Bs}(hu:ax q.name a=true){x:Nat×ag}(h:aN zs a=some x):Use x.2.zone q:=by
 obtain⟨h1,h2⟩:=kN h;exact⟨(hg _ h1).1,(hg _ h1).2,hq,by rw[h2];exact hu⟩
theorem EI{zs:List ag}{q:aI}(hg:bU zs)(hq:bu q=true):∀(f:Nat) (a:Bs),ax q.name a=true-> ∀p∈iK zs q f a,∃x,aN zs p.1=some x/\p.2=(aY x.2.zone q).1/\Use x.2.zone q/\ax q.name p.1=true
 | 0,a,hu,p,hp=>by cases hp
 | f+1,a,hu,p,hp=>by
  cases h:aN zs a with
  | none=>rw[iM h]at hp;cases hp
  | some x =>
   rw[iN h]at hp;have u:=qm hg hq hu h;rcases List.mem_cons.1 hp with rfl | hp
   . exact⟨x,h,rfl,u,hu⟩
   . cases hk:((aY x.2.zone q).1.kind != 4)with
     | true=>rw[hk,if_pos rfl]at hp;cases hp
     | false=>rw[hk,if_neg (by simp)]at hp;exact EI hg hq f _ (eP u hk).1 p hp
theorem Lp{zs:List ag}{q:aI}(hg:bU zs)(hq:bu q=true):∀p∈iL zs q,∃x,aN zs p.1=some x/\p.2=(aY x.2.zone q).1/\Use x.2.zone q/\ax q.name p.1=true:=EI hg hq _ _ (gQ _)
/-! ### Delegations -/
def gI(a:Bs)(p:Bs×Ans):Bool:=(p.2.kind==4)&&(p.2.cut==a)
def b5(zs:List ag)(a:Bs):Option (Bs×Ans):=if a=[46]then none else(iL zs ⟨a,2⟩).find? (gI a)
theorem sU{a:Bs}(h:ai a=true):bu ⟨a,2⟩=true:=by unfold bu;rw[h];rfl
theorem Iq{a:Bs}(h:ai a=true):bu ⟨a,1⟩=true:=by unfold bu;rw[h];rfl
theorem AT{zs:List ag}(hg:bU zs){a:Bs}(ha:ai a=true){p:Bs×Ans}(h:b5 zs a=some p) :
 a ≠ [46]/\p.2.cut=a/\p.2.kind=4/\ax a p.1=true/\ ∃x s0 R,aN zs p.1=some x/\p.2=(aY x.2.zone ⟨a,2⟩).1/\Use x.2.zone ⟨a,2⟩/\s0∈x.2.zone.sets/\s0.place=(a,2)/\p.2.sets=s0::R/\(∀d∈s0.set.data,ai d.text=true)/\s0.set.data.length<=20 /\
  ∀s∈R,s.set.type ≠ 2:=by
 unfold b5 at h;split at h
 . cases h
 . rename_i hne;have hm:=List.mem_of_find?_eq_some h;have hp:=List.find?_some h;unfold gI at hp;simp only[Bool.and_eq_true,beq_iff_eq]at hp;obtain⟨x,h1,h2,u,h3⟩:=Lp hg (sU ha) p hm;refine⟨hne,hp.2,hp.1,h3,x,?_⟩;cases hr:dF (vw x.2.zone ⟨a,2⟩)with
   | false =>
    have:=(u.Eh hr).1;rw[<- h2,hp.1]at this;cases this
   | true =>
    obtain⟨s0,R,r1,r2,r3,r4⟩:=u.LD hr;have hc:bA x.2.zone a=a:=by have:=hp.2;rw[h2,r3]at this;exact this
    have r2' :s0.place=(a,2):=by rw[r2];show(bA x.2.zone a,(2:Int))=_;rw[hc]
    refine⟨s0,R,h1,h2,u,r1,r2',by rw[h2,r3],IH (u.ord.set s0 r1) (congrArg Prod.snd r2'),((fm u.few).2 s0 r1).1,fun s hs e=>?_⟩;rcases r4 s hs with h | h | h <;> rw[h.1]at e <;> cases e
def dD(a:Ans):List Bs:=(a.sets.filter fun s=>(s.set.type==2)&&(s.set.name==a.cut)).flatMap fun s=>s.set.data.map (·.text)
def dZ(a:Ans)(n:Bs):Bool:=a.sets.any fun s=>(s.set.type==1)&&(s.set.name==n)
theorem qJ{zs:List ag}(hg:bU zs){a:Bs}(ha:ai a=true){p:Bs×Ans}(h:b5 zs a=some p):∃s0 R,p.2.sets=s0::R/\dD p.2=s0.set.data.map (·.text)/\(∀n∈dD p.2,ai n=true)/\(dD p.2).length<=20:=by
 obtain⟨_,hc,_,_,x,s0,R,_,_,_,_,hp,hs,hv,hl,hR⟩:=AT hg ha h;have e:dD p.2=s0.set.data.map (·.text):=by
  unfold dD;rw[hs,List.filter_cons_of_pos (by have h1:s0.set.type=2:=congrArg Prod.snd hp;have h2:s0.set.name=a:=congrArg Prod.fst hp;rw[hc,h1,h2];simp)];have:R.filter (fun s=>(s.set.type==2)&&(s.set.name==p.2.cut))=[]:=List.filter_eq_nil_iff.2 fun s hs=>by simp[hR s hs]
  rw[this];simp
 refine⟨s0,R,hs,e,fun n hn=>?_,by rw[e,List.length_map];exact hl⟩;rw[e]at hn;obtain⟨d,hd,rfl⟩:=List.mem_map.1 hn;exact hv d hd
/-! ### gi -/
def mc(zs:List ag):Nat->Bs->Option Bs
 | 0,_=>none
 | f+1,s=>if (aN zs s).isSome=true then some s else if s=[46]then none else mc zs f (bT s)
def fq(zs:List ag)(s:Bs):Option Bs:=mc zs ((aM s).length+1) s
theorem wK{zs:List ag}:∀(f:Nat) (s:Bs),ai s=true->(aM s).length<f ->
 match mc zs f s with
  | some h=>(aN zs h).isSome=true/\ax s h=true/\ ∀b,(aN zs b).isSome=true->ax s b=true->ax h b=true
  | none=> ∀b,(aN zs b).isSome=true->ax s b=false
 | 0,s,_,h=>by omega
 | f+1,s,hv,hf=>by
  unfold mc;by_cases hc:(aN zs s).isSome=true
  . rw[if_pos hc];exact⟨hc,fE s,fun b _ h=>h⟩
  . rw[if_neg hc];by_cases hs:s=[46]
    . rw[if_pos hs];intro b hb;cases hu:ax s b with
      | false=>rfl
      | true =>
       exfalso
       subst hs;have:b=[46]:=nA (gQ b) hu;exact hc (this ▸ hb)
    . rw[if_neg hs];have hlt:(aM (bT s)).length<(aM s).length:=by
       obtain⟨_,_,h3⟩:=lZ hv (gQ s) hs;omega
      have up:∀b,(aN zs b).isSome=true->ax s b=true->ax (bT s) b=true:=fun b hb hu=>tj hv hu fun e=>hc (e ▸ hb)
      have ih:=wK (zs:=zs) f (bT s) (ia hv) (by omega);split at ih
      . rename_i h e;exact⟨ih.1,mo (sR hv) ih.2.1,fun b hb hu=>ih.2.2 b hb (up b hb hu)⟩
      . intro b hb;cases hu:ax s b with
        | false=>rfl
        | true=>exact absurd (up b hb hu) (by simp[ih b hb])
theorem wJ(zs:List ag){s:Bs}(hv:ai s=true):match fq zs s with
 | some h=>(aN zs h).isSome=true/\ax s h=true/\ ∀b,(aN zs b).isSome=true->ax s b=true->ax h b=true
 | none=> ∀b,(aN zs b).isSome=true->ax s b=false:=wK _ s hv (Nat.lt_succ_self _)
/-! ### Needs -/
def gK(zs:List ag)(a:Ans)(l:List Bs):List Bs:=l.filterMap fun n=>if dZ a n=true then none else fq zs n
def aK(zs:List ag)(a:Bs):List Bs:=match b5 zs a with
 | none=>[]
 | some p=>Lib.compact (gO (gK zs p.2 (dD p.2)))
theorem C0{l:List Bs}{a:Bs}(h:a∈l):∃j,j<l.length/\l[j]? =some a/\Lib.keeps l.toArray j=true:=by
 obtain⟨j,hj⟩:=List.getElem?_of_mem h;induction j using Nat.strongRecOn with
 | _ j ih =>
  have hlt:=(List.getElem?_eq_some_iff.1 hj).1;by_cases h0:j=0
  . exact⟨j,hlt,hj,by simp[Lib.keeps,h0]⟩
  . by_cases hp:l[j-1]? =some a
    . exact ih (j-1) (by omega) hp
    . refine⟨j,hlt,hj,?_⟩;have h1:l.toArray[j]! =a:=by simp[hj]
      have h2:l.toArray[j-1]! ≠ a:=by
       intro e;apply hp;have:j-1<l.length:=by omega
       simp[List.getElem?_eq_getElem this]at e ⊢;exact e
      simp[Lib.keeps];right;intro e;apply h2;have e' :l.toArray[j]! =l.toArray[j-1]! :=by simpa using e
      rw[<- e',h1]
theorem CL{l:List Bs}{a:Bs}:a∈Lib.compact l ↔ a∈l:=by
 unfold Lib.compact Lib.compactUpTo;rw[List.mem_map];constructor
 . rintro⟨j,hj,rfl⟩;have:=List.mem_range.1 (List.mem_filter.1 hj).1;simp[List.getElem?_eq_getElem this]
 . intro h;obtain⟨j,h1,h2,h3⟩:=C0 h;exact⟨j,List.mem_filter.2 ⟨List.mem_range.2 h1,h3⟩,by simp[h2]⟩
theorem zC{l:List Bs}(h:l.Pairwise fun a b=>au a b<=0):(Lib.compact l).Pairwise fun a b=>au a b= -1:=by
 unfold Lib.compact Lib.compactUpTo;rw[List.pairwise_map];have hr:((List.range l.length).filter (Lib.keeps l.toArray)).Pairwise (· < ·):=(List.pairwise_lt_range).filter _;refine hr.imp_of_mem fun{i j} hi hj hij=>?_
 have hi' :=List.mem_range.1 (List.mem_filter.1 hi).1;have hj' :=List.mem_range.1 (List.mem_filter.1 hj).1;have hk:=(List.mem_filter.1 hj).2;have ei:l.toArray[i]! =l[i]:=by simp[List.getElem?_eq_getElem hi']
 have ej:l.toArray[j]! =l[j]:=by simp[List.getElem?_eq_getElem hj']
 have hj1:j-1<l.length:=by omega
 have ep:l.toArray[j-1]! =l[j-1]:=by simp[List.getElem?_eq_getElem hj1]
 have hne:l[j] ≠ l[j-1]:=by
  intro e;unfold Lib.keeps at hk;rw[ej,ep,e]at hk;simp at hk;omega
 have hP:=List.pairwise_iff_getElem.1 h;have h2:au l[j-1] l[j]<=0:=hP (j-1) j hj1 hj' (by omega);have h1:au l[i] l[j-1]<=0:=by
  by_cases e:i=j-1
  . subst e;rw[(aG.zero _ _).2 rfl];decide
  . exact hP i (j-1) hi' hj1 (by omega)
 rw[ei,ej];have hlt:au l[j-1] l[j]= -1:=by
  rcases aG.range l[j-1] l[j]with e | e | e
  . exact e
  . exact absurd ((aG.zero _ _).1 e).symm hne
  . omega
 have hle:=aG.le_trans h1 h2;rcases aG.range l[i] l[j]with e | e | e
 . exact e
 . have e' :=(aG.zero _ _).1 e;rw[e']at h1;have:=aG.anti l[j-1] l[j];omega
 . omega
theorem Dj(zs:List ag)(a:Bs):(aK zs a).Pairwise fun a b=>au a b= -1:=by
 unfold aK;split
 . exact List.Pairwise.nil
 . exact zC (eR _)
theorem Ig{zs:List ag}{a b:Bs}:b∈aK zs a ↔ ∃p,b5 zs a=some p/\ ∃n∈dD p.2,dZ p.2 n=false/\fq zs n=some b:=by
 unfold aK;cases h:b5 zs a with
 | none=>simp
 | some p =>
  simp only[Option.some.injEq,exists_eq_left'];rw[CL,yU];unfold gK;rw[List.mem_filterMap];constructor
  . rintro⟨n,hn,hx⟩;split at hx
    . cases hx
    . rename_i hg;exact⟨n,hn,by simpa using hg,hx⟩
  . rintro⟨n,hn,hg,hx⟩;exact⟨n,hn,by rw[if_neg (by rw[hg];simp)];exact hx⟩
theorem uH(zs:List ag)(a:Bs):(aK zs a).Nodup:=by
 refine(Dj zs a).imp fun{x y} h e=>?_
 rw[(aG.zero x y).2 e]at h;cases h
theorem Bh{zs:List ag}{n b:Bs}(hv:ai n=true)(h:fq zs n=some b):b∈cY (bC zs):=by
 have:=wJ zs hv;rw[h]at this;exact(cj zs b).2 this.1
theorem sN{zs:List ag}(hg:bU zs){a:Bs}(ha:ai a=true):∀b∈aK zs a,b∈cY (bC zs):=fun b hb=>by
 obtain⟨p,hp,n,hn,_,hh⟩:=Ig.1 hb;obtain⟨_,_,_,_,hv,_⟩:=qJ hg ha hp;exact Bh (hv n hn) hh
theorem dW{zs:List ag}(hg:bU zs){a:Bs}(h:a∈cY (bC zs)):ai a=true:=by
 obtain⟨p,hp,rfl⟩:=sH.1 h;exact(aU (hg p hp).2).apex
theorem ck{zs:List ag}{a:Bs}:a∈ar zs ↔ (aN zs a).isSome=true:=by
 unfold ar;rw[yU,cj]
theorem Aw(zs:List ag):(ar zs).Nodup:=(dR _).nodup_iff.2 (jN zs)
theorem gu(zs:List ag):(ar zs).length<=zs.length:=by
 unfold ar cY;rw[(dR _).length_eq,List.length_map];exact xp zs
/-! ### Roads,and what can be reached -/
structure tz where
 there:Bool
 glue:Bool
 above:Bs
 homes:List Bs
def tU(r:tz):List D:=[.bool r.there, .bool r.glue, .str r.above, .slice 1 (r.homes.map ao)]
def jD(zs:List ag)(h n:Bs):Bool:=match aN zs h with | none=>false | some x=>((aY x.2.zone ⟨n,1⟩).1.kind==1)
def dG(zs:List ag)(a:Ans)(l:List Bs):List Bs:=l.filterMap fun n=>if dZ a n=true then none else match fq zs n with | none=>none | some h=>if jD zs h n=true then some h else none
def LH:tz:=⟨false,false,[],[]⟩
def eI(zs:List ag)(a:Bs):tz:=match b5 zs a with
 | none=>LH
 | some p=>⟨true,(dD p.2).any (dZ p.2),p.1,dG zs p.2 (dD p.2)⟩
def kD(r:tz)(f:Bs->Bool):Bool:=r.there&&f r.above&&(r.glue||r.homes.any f)
def eT(zs:List ag)(r:List Bs)(a:Bs):Bool:= !r.contains a&&((a==[46])||kD (eI zs a) r.contains)
def b9(zs:List ag)(r:List Bs)(a:Bs):List Bs:=if eT zs r a=true then r++[a]else r
def jn(zs:List ag)(r:List Bs)(l:List Bs):List Bs:=l.foldl (b9 zs) r
def dx(zs:List ag)(r:List Bs):List Bs:=jn zs r (ar zs)
def ib(zs:List ag):Nat->List Bs->List Bs
 | 0,r=>r
 | k+1,r=>ib zs k (dx zs r)
def c8(zs:List ag):List Bs:=ib zs ((ar zs).length+1) []
def cN(zs:List ag):List Bs:=(ar zs).filter fun a=> !(c8 zs).contains a
/-! ### Least loops -/
def lz(be:List (Bs×Bs))(n:Bs):Bool:=be.any fun p=>p.1==n
def nu(be:List (Bs×Bs))(n:Bs):Bs:=match be.find? (fun p=>p.1==n)with | some p=>p.2 | none=>[]
def cu(zone at_:Bs):List Bs->List Bs->List (Bs×Bs)->Bool×List Bs×List (Bs×Bs)
 | [],qu,be=>(false,qu,be)
 | n::t,qu,be=>if n=zone then(true,qu,be)else if lz be n=true then cu zone at_ t qu be else cu zone at_ t (qu++[n]) (be++[(n,at_)])
def lP(zs:List ag)(zone:Bs):Nat->List Bs->List (Bs×Bs)->Option (Bs×List (Bs×Bs))
 | 0,_,_=>none
 | _+1,[],_=>none
 | f+1,a::qu,be=>if (cu zone a (aK zs a) qu be).1=true then some (a,(cu zone a (aK zs a) qu be).2.2)else lP zs zone f (cu zone a (aK zs a) qu be).2.1 (cu zone a (aK zs a) qu be).2.2
def lu(be:List (Bs×Bs))(zone:Bs):Nat->Bs->List Bs
 | 0,_=>[]
 | f+1,last=>if last=zone then[]else nu be last::lu be zone f (nu be last)
def bN(zs:List ag)(zone:Bs):List Bs:=match lP zs zone (2*(ar zs).length+2) [zone] []with
 | none=>[]
 | some x=>(x.1::lu x.2 zone (x.2.length+1) x.1).reverse
/-! ### Loops of aliases -/
def FH(a:Ans):Bs:=match a.sets.head? with | some s=>(match s.set.data.head? with | some d=>d.text | none=>[]) | none=>[]
def gJ(zs:List ag)(s:Bs):Option Bs:=if ((bD zs ⟨s,1⟩).2&&((bD zs ⟨s,1⟩).1.kind==3))=true then some (FH (bD zs ⟨s,1⟩).1)else none
def cU(zs:List ag):Nat->List Bs->Bs->List Bs×Bool
 | 0,_,_=>([],false)
 | f+1,met,s=>if met.contains s=true then(met.drop (met.idxOf s),true)else match gJ zs s with
  | none=>([],false)
  | some n=>cU zs f (met++[s]) n
def dC(zs:List ag):List Bs:=zs.flatMap fun p=>p.zone.sets.flatMap fun s=>s.set.data.map (·.text)
def mz(zs:List ag)(s:Bs):List Bs×Bool:=cU zs ((dC zs).length+2) [] s
/-! ### What can be reached -/
theorem sD(zs:List ag)(r:List Bs)(a:Bs):(b9 zs r a).length=r.length+(if eT zs r a=true then 1 else 0):=by
 unfold b9;split <;> simp
theorem oI(zs:List ag):∀(l r:List Bs),r.length<=(jn zs r l).length
 | [],r=>Nat.le_refl _
 | a::l,r=>by
  have h1:=oI zs l (b9 zs r a);have h2:=sD zs r a;show r.length<=(jn zs (b9 zs r a) l).length
  omega
theorem oH{zs:List ag}:∀{l r:List Bs},(jn zs r l).length=r.length->jn zs r l=r/\ ∀a∈l,eT zs r a=false
 | [],r,h=>⟨rfl,fun a ha=>by cases ha⟩
 | a::l,r,h=>by
  have h:(jn zs (b9 zs r a) l).length=r.length:=h;have h1:=oI zs l (b9 zs r a);have h2:=sD zs r a;have hg:eT zs r a=false:=by
   cases e:eT zs r a with
   | false=>rfl
   | true=>rw[e]at h2;simp at h2;omega
  have he:b9 zs r a=r:=by unfold b9;rw[if_neg (by rw[hg];simp)]
  have ih:=oH (zs:=zs) (l:=l) (r:=r) (by rw[he]at h;exact h);refine⟨?_,fun b hb=>?_⟩
  . show jn zs (b9 zs r a) l=r
    rw[he];exact ih.1
  . rcases List.mem_cons.1 hb with rfl | hb
    . exact hg
    . exact ih.2 b hb
theorem w4{r:tz}{f g:Bs->Bool}(h:∀x,f x=true->g x=true)(ho:kD r f=true):kD r g=true:=by
 unfold kD at ho ⊢;simp only[Bool.and_eq_true,Bool.or_eq_true]at ho ⊢;refine⟨⟨ho.1.1,h _ ho.1.2⟩,?_⟩;rcases ho.2 with h1 | h1
 . exact .inl h1
 . obtain⟨x,hx,hf⟩:=List.any_eq_true.1 h1;exact .inr (List.any_eq_true.2 ⟨x,hx,h x hf⟩)
structure Reach(zs:List ag)(r:List Bs):Prop where
 nodup:r.Nodup
 sub:∀a∈r,a∈ar zs
 why:∀a∈r,a=[46]\/kD (eI zs a) r.contains=true
theorem Reach.nil(zs:List ag):Reach zs []:=⟨List.nodup_nil,(fun a h=>by cases h),(fun a h=>by cases h)⟩
theorem Reach.step{zs:List ag}{r:List Bs}{a:Bs}(h:Reach zs r)(ha:a∈ar zs):Reach zs (b9 zs r a):=by
 unfold b9;split
 . rename_i hg;unfold eT at hg;simp only[Bool.and_eq_true,Bool.not_eq_true',Bool.or_eq_true,beq_iff_eq]at hg;have hna:a ∉ r:=fun hm=>by have:=hg.1;simp[hm]at this
   have hmono:∀x,r.contains x=true->(r++[a]).contains x=true:=fun x hx=>by
    simp only[List.contains_iff_mem,List.mem_append]at hx ⊢;exact .inl hx
   refine⟨List.nodup_append.2 ⟨h.nodup,by simp,fun x hx y hy=>by rw[List.mem_singleton]at hy;subst hy;rintro rfl;exact hna hx⟩,fun x hx=>?_,fun x hx=>?_⟩
   . rcases List.mem_append.1 hx with hx | hx
     . exact h.sub x hx
     . rw[List.mem_singleton.1 hx];exact ha
   . rcases List.mem_append.1 hx with hx | hx
     . rcases h.why x hx with h1 | h1
       . exact .inl h1
       . exact .inr (w4 hmono h1)
     . rw[List.mem_singleton.1 hx];rcases hg.2 with h1 | h1
       . exact .inl h1
       . exact .inr (w4 hmono h1)
 . exact h
theorem Reach.grow{zs:List ag}:∀{l r:List Bs},Reach zs r->(∀a∈l,a∈ar zs)->Reach zs (jn zs r l)
 | [],r,h,_=>h
 | a::l,r,h,hl=>Reach.grow (l:=l) (h.step (hl a (List.mem_cons_self ..))) fun b hb=>hl b (List.mem_cons_of_mem _ hb)
theorem iU:∀{l m:List Bs},l.Nodup->(∀a∈l,a∈m)->l.length<=m.length
 | [],m,_,_=>Nat.zero_le _
 | a::l,m,h,hs=>by
  obtain⟨h1,h2⟩:=List.nodup_cons.1 h;have ha:=hs a (List.mem_cons_self ..);have:=iU (l:=l) (m:=m.erase a) h2 fun b hb=>(List.mem_erase_of_ne (fun(e:b=a)=>h1 (e ▸ hb))).2 (hs b (List.mem_cons_of_mem _ hb))
  rw[List.length_erase_of_mem ha]at this;have hp:=List.length_pos_of_mem ha;simp only[List.length_cons];omega
theorem Reach.len{zs:List ag}{r:List Bs}(h:Reach zs r):r.length<=(ar zs).length:=iU h.nodup h.sub
theorem Reach.next{zs:List ag}{r:List Bs}(h:Reach zs r):Reach zs (dx zs r):=Reach.grow h fun a ha=>ha
theorem qX{zs:List ag}{r:List Bs}(h:dx zs r=r):∀k,ib zs k r=r
 | 0=>rfl
 | k+1=>by rw[ib,h];exact qX h k
theorem y6{zs:List ag}:∀(k:Nat) (r:List Bs),Reach zs r->(ar zs).length<k+r.length->Reach zs (ib zs k r)/\dx zs (ib zs k r)=ib zs k r
 | 0,r,h,hk=>by have:=h.len;omega
 | k+1,r,h,hk=>by
  by_cases e:(dx zs r).length=r.length
  . have:=(oH e).1;have hf:dx zs r=r:=this;rw[qX hf];exact⟨h,hf⟩
  . have hl:=oI zs (ar zs) r;have hl:r.length<=(dx zs r).length:=hl;rw[ib];exact y6 k _ h.next (by omega)
theorem y7(zs:List ag):Reach zs (c8 zs)/\dx zs (c8 zs)=c8 zs:=y6 _ _ (Reach.nil zs) (by simp)
theorem Iu{zs:List ag}{a:Bs}(ha:a∈ar zs):(c8 zs).contains a=((a==[46])||kD (eI zs a) (c8 zs).contains):=by
 obtain⟨h1,h2⟩:=y7 zs;rw[Bool.eq_iff_iff,Bool.or_eq_true,beq_iff_eq];constructor
 . intro h;exact h1.why a (by simpa using h)
 . intro h;have hf:eT zs (c8 zs) a=false:=(oH (zs:=zs) (l:=ar zs) (r:=c8 zs) (by show(dx zs (c8 zs)).length=_;rw[h2])).2 a ha;unfold eT at hf;cases e:(c8 zs).contains a with
   | true=>rfl
   | false =>
    rw[e]at hf;simp only[Bool.not_false,Bool.true_and,Bool.or_eq_false_iff,beq_eq_false_iff_ne]at hf;rcases h with h | h
    . exact absurd h hf.1
    . rw[hf.2]at h;cases h
theorem Gx{zs:List ag}{a:Bs}(ha:a∈ar zs):(cN zs).contains a= !(c8 zs).contains a:=by
 unfold cN;rw[Bool.eq_iff_iff];simp only[List.contains_iff_mem,List.mem_filter];simp[ha]
def wH(zs:List ag)(a:Ans)(h:Bs)(r:Bs->Bool):Bool:=dZ a h||(match fq zs h with | none=>false | some b=>r b&&jD zs b h)
theorem Iz{zs:List ag}{a:Bs}{f:Bs->Bool}:kD (eI zs a) f=match b5 zs a with | none=>false | some p=>f p.1&&(dD p.2).any fun h=>wH zs p.2 h f:=by
 unfold eI;cases b5 zs a with
 | none=>rfl
 | some p =>
  unfold kD;show(true&&f p.1&&((dD p.2).any (dZ p.2)||(dG zs p.2 (dD p.2)).any f))=(f p.1&&(dD p.2).any fun h=>wH zs p.2 h f)
  rw[Bool.true_and]
  congr 1
  rw[Bool.eq_iff_iff,Bool.or_eq_true];simp only[List.any_eq_true];unfold dG;constructor
  . rintro(⟨n,hn,hg⟩ | ⟨b,hb,hf⟩)
    . exact⟨n,hn,by unfold wH;rw[hg];rfl⟩
    . obtain⟨n,hn,hx⟩:=List.mem_filterMap.1 hb;refine⟨n,hn,?_⟩;unfold wH;split at hx
      . cases hx
      . split at hx
        . cases hx
        . rename_i b' hh;split at hx
          . rename_i hk;cases hx
            (try rw[hh]);simp[hf,hk]
          . cases hx
  . rintro⟨n,hn,hx⟩;unfold wH at hx;cases hg:dZ p.2 n with
    | true=>exact .inl ⟨n,hn,hg⟩
    | false =>
     rw[hg,Bool.false_or]at hx;cases hh:fq zs n with
     | none=>rw[hh]at hx;cases hx
     | some b =>
      rw[hh]at hx;simp only[Bool.and_eq_true]at hx;exact .inr ⟨b,List.mem_filterMap.2 ⟨n,hn,by rw[hg,hh];simp[hx.2]⟩,hx.1⟩
/-! ### Loops of aliases -/
theorem tJ{zs:List ag}(hg:bU zs){s n:Bs}(hs:ai s=true)(h:gJ zs s=some n):ai n=true/\n∈dC zs/\ ∃a t R d,bD zs ⟨s,1⟩=(a,true)/\a.kind=3/\a.sets=t::R/\t.set.data=[d]/\d.text=n:=by
 unfold gJ at h;split at h
 . rename_i hc;simp only[Bool.and_eq_true,beq_iff_eq]at hc;cases hr:bD zs ⟨s,1⟩with
   | mk a ok =>
    rw[hr]at hc h;obtain⟨rfl,hk⟩:=hc;obtain⟨p,hp,u,rfl,_⟩:=sY hg (Iq hs) hr;obtain⟨t,R,d,h1,h2,h3,h4,h5⟩:=u.GC hk;have e:FH (aY p.zone ⟨s,1⟩).1=d.text:=by unfold FH;rw[h1];simp[h4]
    rw[e]at h;cases h;refine⟨h5,?_,_,t,R,d,rfl,hk,h1,h4,rfl⟩;unfold dC;exact List.mem_flatMap.2 ⟨p,hp,List.mem_flatMap.2 ⟨t,h2,List.mem_map.2 ⟨d,by rw[h4];exact List.mem_cons_self .., rfl⟩⟩⟩
 . cases h
theorem yP{zs:List ag}(hg:bU zs){S:List Bs}(hS:∀n∈S,ai n=true/\ ∃m∈S,gJ zs n=some m):∀(f:Nat) (n:Bs) (kept:List Signed),n∈S->jf zs f ⟨n,1⟩ kept=(jk,33)
 | 0,n,kept,_=>rfl
 | f+1,n,kept,hn=>by
  obtain⟨hv,m,hm,hl⟩:=hS n hn;obtain⟨_,_,a,t,R,d,h1,h2,h3,h4,h5⟩:=tJ hg hv hl;unfold jf;rw[h1];dsimp only;rw[if_neg (by simp),if_neg (by rw[h2];decide),h3];dsimp only[List.head?_cons];rw[h4];dsimp only[List.head?_cons];rw[h5];exact yP hg hS f m _ hm
def zV(zs:List ag)(met:List Bs)(s:Bs):Prop:= ∀(i:Nat) n,met[i]? =some n-> ∃m,(met++[s])[i+1]? =some m/\gJ zs n=some m
theorem zV.next{zs:List ag}{met:List Bs}{s n:Bs}(h:zV zs met s)(hl:gJ zs s=some n):zV zs (met++[s]) n:=fun i m hi=>by
 by_cases hlt:i<met.length
 . rw[List.getElem?_append_left hlt]at hi;obtain⟨x,hx,hxl⟩:=h i m hi;refine⟨x,?_,hxl⟩;rw[List.getElem?_append_left (by simp;omega)];exact hx
 . have:i=met.length:=by
    have:=(List.getElem?_eq_some_iff.1 hi).1;simp at this;omega
   subst this;rw[List.getElem?_append_right (Nat.le_refl _),Nat.sub_self]at hi;cases hi;refine⟨n,?_,hl⟩;rw[List.getElem?_append_right (by simp)];simp
structure EJ(zs:List ag)(s0:Bs)(l:List Bs):Prop where
 pos:0<l.length
 nodup:l.Nodup
 lead:∀(i:Nat) n,l[i]? =some n->gJ zs n=l[(i+1) % l.length]?
 loop:∀n,(n∈l\/n=s0)-> ∀f kept,jf zs f ⟨n,1⟩ kept=(jk,33)
 valid:∀n∈l,ai n=true
theorem Aq{zs:List ag}(hg:bU zs){s0:Bs}:∀(f:Nat) (met:List Bs) (s:Bs),zV zs met s->met.Nodup->(∀n∈met,ai n=true)->ai s=true->(met++[s])[0]? =some s0 ->
 (cU zs f met s).2=true->EJ zs s0 (cU zs f met s).1
 | 0,met,s,_,_,_,_,_,h=>by cases h
 | f+1,met,s,hc,hn,hv,hvs,h0,h=>by
  unfold cU at h ⊢;by_cases hm:met.contains s=true
  . rw[if_pos hm];have hmem:s∈met:=by simpa using hm
    have hidx:met.idxOf s<met.length:=List.idxOf_lt_length_of_mem hmem;generalize hk:met.idxOf s=k at hidx;have hks:met[k]? =some s:=by
     rw[List.getElem?_eq_getElem hidx];have:=List.getElem_idxOf (x:=s) (xs:=met) (by rw[hk];exact hidx);simp only[hk]at this;rw[this]
    have hlen:(met.drop k).length=met.length-k:=by simp
    have hpos:0<(met.drop k).length:=by omega
    have hS:∀n∈met,ai n=true/\ ∃m∈met,gJ zs n=some m:=fun n hn' =>by
     obtain⟨i,hi⟩:=List.getElem?_of_mem hn';obtain⟨m,hm1,hm2⟩:=hc i n hi;refine⟨hv n hn',m,?_,hm2⟩;have:=List.mem_of_getElem? hm1;rcases List.mem_append.1 this with h | h
     . exact h
     . rw[List.mem_singleton.1 h];exact hmem
    refine⟨hpos,(List.drop_sublist k met).nodup hn,fun i n hi=>?_,fun n hn' f' kept=>?_,fun n hn' =>hv n (List.mem_of_mem_drop hn')⟩
    . rw[List.getElem?_drop]at hi;have hlt:=(List.getElem?_eq_some_iff.1 hi).1;obtain⟨m,hm1,hm2⟩:=hc (k+i) n hi;rw[hm2,hlen,List.getElem?_drop];by_cases hl:k+i+1<met.length
      . rw[List.getElem?_append_left hl]at hm1;rw[Nat.mod_eq_of_lt (by omega), <- hm1];rfl
      . have e1:k+i+1=met.length:=by omega
        have e2:i+1=met.length-k:=by omega
        rw[e2,Nat.mod_self,Nat.add_zero,hks];rw[e1,List.getElem?_append_right (Nat.le_refl _),Nat.sub_self]at hm1;exact hm1.symm
    . refine yP hg hS f' n kept ?_;rcases hn' with hn' | rfl
      . exact List.mem_of_mem_drop hn'
      . have:=List.mem_of_getElem? h0;rcases List.mem_append.1 this with h | h
        . exact h
        . rw[List.mem_singleton.1 h];exact hmem
  . rw[if_neg hm]at h ⊢;have hnm:s ∉ met:=by simpa using hm
    cases hl:gJ zs s with
    | none=>rw[hl]at h;cases h
    | some n =>
     rw[hl]at h;dsimp only at h ⊢;obtain⟨v,_⟩:=tJ hg hvs hl;refine Aq hg f (met++[s]) n (hc.next hl) (List.nodup_append.2 ⟨hn,by simp,fun x hx y hy=>by rw[List.mem_singleton]at hy;subst hy;rintro rfl;exact hnm hx⟩) (fun x hx=>?_) v ?_ h
     . rcases List.mem_append.1 hx with hx | hx
       . exact hv x hx
       . rw[List.mem_singleton.1 hx];exact hvs
     . rw[List.getElem?_append_left (by simp)];exact h0
theorem Ol{zs:List ag}(hg:bU zs){s:Bs}(hs:ai s=true)(h:(mz zs s).2=true):EJ zs s (mz zs s).1 :=
 Aq hg _ [] s (fun i n h=>by simp at h) List.nodup_nil (fun n h=>by cases h) hs rfl h
theorem GF{zs:List ag}:∀(f:Nat) (met:List Bs) (s:Bs),(cU zs f met s).2=false->(cU zs f met s).1=[]
 | 0,met,s,h=>rfl
 | f+1,met,s,h=>by
  unfold cU at h ⊢;split at h
  . cases h
  . rename_i hm;rw[if_neg hm];cases hl:gJ zs s with
    | none=>rfl
    | some n=>rw[hl]at h;exact GF f _ n h
/-! ### The truth about servers -/
theorem ET{z:aA}(ho:Ordered z):bA z z.apex=[]:=by
 unfold bA;cases hf:(bK z.apex z.sets).find? fun c=>ax z.apex c with
 | none=>rfl
 | some c =>
  exfalso
  have h1:=List.mem_of_find?_eq_some hf;have h2:ax z.apex c=true:=by have:=List.find?_some hf;simpa using this
  obtain⟨s,hs,hi,he⟩:=(jv z.apex _ z.sets).1 h1;have hua:=ho.under s hs;unfold bd at hua;rw[if_pos ⟨ho.name s hs,ho.apex⟩,he]at hua;have:c=z.apex:=nA hua h2;unfold cO at hi;rw[he,this]at hi;simp at hi
theorem Av{z:aA}(hf:fY z=true)(hv:aV z=true):∃s∈z.sets,s.place=(z.apex,2)/\(aY z ⟨z.apex,2⟩).1=⟨1,[s],[]⟩:=by
 have ho:=aU hv;have hh:cv z.sets ⟨z.apex,2⟩=true:=by
  unfold aV gj at hv;simp only[Bool.and_eq_true]at hv;exact hv.1.2.1.2
 obtain⟨k,s,_,hs,hp⟩:=qy hh;have u:Use z ⟨z.apex,2⟩:=⟨hf,hv,sU ho.apex,fE _⟩
 have hr:dF (vw z ⟨z.apex,2⟩)=false:=by rw[v7];show(!(bA z z.apex==[])&&_)=false;rw[ET ho];rfl
 exact⟨s,List.mem_of_getElem? hs,hp,u.data hr (List.mem_of_getElem? hs) hp⟩
theorem Ja{zs:List ag}(hg:bU zs){z:Bs}(hz:ai z=true){x:Nat×ag}(hx:aN zs z=some x){T:Ans}(hT:(aY x.2.zone ⟨z,2⟩).1=T)(hk:(T.kind != 4)=true){p:Bs×Ans}(hc:gI z p=true) :
 ∀(f:Nat) (a:Bs),ax z a=true->(back z).length+1<=f+(back a).length->p∈iK zs ⟨z,2⟩ f a->fR zs (bC zs) ⟨z,2⟩ f a=(T,true)
 | 0,a,_,_,hp=>by cases hp
 | f+1,a,hu,hf,hp=>by
  cases h:aN zs a with
  | none=>rw[iM h]at hp;cases hp
  | some y =>
   rw[iN h]at hp;rw[ij,h];dsimp only;have u:=qm hg (sU hz) hu h;unfold gI at hc;simp only[Bool.and_eq_true,beq_iff_eq]at hc;cases hy:((aY y.2.zone ⟨z,2⟩).1.kind != 4)with
   | true =>
    rw[hy,if_pos rfl]at hp;have:=List.mem_singleton.1 hp;subst this;rw[hc.1]at hy;simp at hy
   | false =>
    rw[if_neg (by simp)];obtain⟨d1,d2,_⟩:=eP u hy;rw[(kN h).2]at d2;have hle:=((cZ _ _).1 d1).length_le;have hle:(back (aY y.2.zone ⟨z,2⟩).1.cut).length<=(back z).length:=hle;rcases List.mem_cons.1 hp with rfl | hp
    . have e:(aY y.2.zone ⟨z,2⟩).1.cut=z:=hc.2;rw[e]at d2 ⊢;obtain⟨g,rfl⟩:∃g,f=g+1:=⟨f-1,by omega⟩
      rw[ij,hx];dsimp only;rw[hT,if_pos hk]
    . rw[hy,if_neg (by simp)]at hp;exact Ja hg hz hx hT hk (by unfold gI;simp[hc.1,hc.2]) f _ d1 (by omega) hp
theorem Du{zs:List ag}(hg:bU zs){z:Bs}(hr:(c8 zs).contains z=true):∃x s,aN zs z=some x/\s∈x.2.zone.sets/\s.place=(z,2)/\bD zs ⟨z,2⟩=(⟨1,[s],[]⟩,true):=by
 have hz:z∈ar zs:=(y7 zs).1.sub z (by simpa using hr);obtain⟨x,hx⟩:=Option.isSome_iff_exists.1 (ck.1 hz);obtain⟨h1,h2⟩:=kN hx;have hzv:ai z=true:=dW hg ((cj zs z).2 (ck.1 hz));obtain⟨s,hs,hp,ha⟩:=Av (hg _ h1).1 (hg _ h1).2;rw[h2]at hp ha;refine⟨x,s,hx,hs,hp,?_⟩;rw[Iu hz,Bool.or_eq_true,beq_iff_eq]at hr;unfold bD;rcases hr with rfl | hr
 . rw[ij,hx];dsimp only;rw[ha];rfl
 . rw[Iz]at hr;cases hd:b5 zs z with
   | none=>rw[hd]at hr;cases hr
   | some p =>
    unfold b5 at hd;split at hd
    . cases hd
    . exact Ja hg hzv hx ha rfl (List.find?_some hd) _ _ (gQ z) (by show(back z).length+1<=(back z).length+2+_;omega) (List.mem_of_find?_eq_some hd)
/-! ### Other orders -/
section
variable {zs zs' :List ag} (h:∀a,(aN zs a).map (·.2)=(aN zs' a).map (·.2))
include h
theorem oE{a:Bs}{x:Nat×ag}(hx:aN zs a=some x):∃y,aN zs' a=some y/\y.2=x.2:=by
 have:=h a;rw[hx]at this;cases hy:aN zs' a with
 | none=>rw[hy]at this;cases this
 | some y=>rw[hy]at this;cases y;cases x;simp at this;exact⟨_,rfl,this.symm⟩
theorem rB(a:Bs):(aN zs a).isSome=(aN zs' a).isSome:=by
 have:=congrArg Option.isSome (h a);simpa using this
theorem xA(q:aI):∀(f:Nat) (a:Bs),iK zs q f a=iK zs' q f a
 | 0,a=>rfl
 | f+1,a=>by
  cases hx:aN zs a with
  | none =>
   have:aN zs' a=none:=by
    have:=h a;rw[hx]at this;cases hy:aN zs' a with
    | none=>rfl
    | some y=>rw[hy]at this;cases this
   rw[iM hx,iM this]
  | some x =>
   obtain⟨y,hy,e⟩:=oE h hx;rw[iN hx,iN hy,e];split
   . rfl
   . rw[xA q f]
theorem uq(a:Bs):b5 zs a=b5 zs' a:=by unfold b5 iL;rw[xA h]
theorem uA:∀(f:Nat) (s:Bs),mc zs f s=mc zs' f s
 | 0,s=>rfl
 | f+1,s=>by unfold mc;rw[rB h,uA f]
theorem uz(s:Bs):fq zs s=fq zs' s:=uA h _ s
theorem Di(a:Bs):aK zs a=aK zs' a:=by
 unfold aK gK;rw[uq h];simp only[uz h]
theorem nM:ar zs=ar zs' :=by
 unfold ar;refine ml ?_ (eR _) (eR _);refine((dR _).trans ?_).trans (dR _).symm;exact(List.perm_ext_iff_of_nodup (jN zs) (jN zs')).2 fun a=>by rw[cj,cj,rB h]
theorem C6(a n:Bs):jD zs a n=jD zs' a n:=by
 unfold jD;have:=h a;cases hx:aN zs a with
 | none =>
  rw[hx]at this;cases hy:aN zs' a with
  | none=>rfl
  | some y=>rw[hy]at this;cases this
 | some x =>
  obtain⟨y,hy,e⟩:=oE h hx;rw[hy];dsimp only;rw[e]
theorem F6(a:Bs):eI zs a=eI zs' a:=by
 unfold eI dG;rw[uq h];simp only[uz h,C6 h]
theorem ux:∀(l r:List Bs),jn zs r l=jn zs' r l
 | [],r=>rfl
 | a::l,r=>by
  have e:b9 zs r a=b9 zs' r a:=by unfold b9 eT;rw[F6 h]
  show jn zs (b9 zs r a) l=jn zs' (b9 zs' r a) l
  rw[e];exact ux l _
theorem sV:∀(k:Nat) (r:List Bs),ib zs k r=ib zs' k r
 | 0,r=>rfl
 | k+1,r=>by
  have e:dx zs r=dx zs' r:=by unfold dx;rw[nM h,ux h]
  rw[ib,ib,e];exact sV k _
theorem NO:cN zs=cN zs' :=by unfold cN c8;rw[nM h,sV h]
theorem yz(zone:Bs):∀(f:Nat) (qu:List Bs) (be:List (Bs×Bs)),lP zs zone f qu be=lP zs' zone f qu be
 | 0,qu,be=>rfl
 | f+1,[],be=>rfl
 | f+1,a::qu,be=>by rw[lP,lP,Di h,yz zone f]
theorem NN(zone:Bs):bN zs zone=bN zs' zone:=by unfold bN;rw[nM h,yz h]
theorem FI(s:Bs):gJ zs s=gJ zs' s:=by
 have e:bD zs ⟨s,1⟩=bD zs' ⟨s,1⟩:=rI h _ _ _;unfold gJ;rw[e]
end
theorem oO{l:List Bs}(h:l.Nodup){i j:Nat}{a:Bs}(hi:l[i]? =some a)(hj:l[j]? =some a):i=j:=by
 obtain⟨b1,e1⟩:=List.getElem?_eq_some_iff.1 hi;obtain⟨b2,e2⟩:=List.getElem?_eq_some_iff.1 hj;have hp:=List.pairwise_iff_getElem.1 h;rcases Nat.lt_trichotomy i j with hlt | rfl | hlt
 . exact absurd (e1.trans e2.symm) (hp i j b1 b2 hlt)
 . rfl
 . exact absurd (e2.trans e1.symm) (hp j i b2 b1 hlt)
structure eV(zs:List ag)(zone:Bs)(P Q:List Bs)(be:List (Bs×Bs))(ds:List Nat):Prop where
 all:P++Q=zone::be.map (·.1)
 nodup:(zone::be.map (·.1)).Nodup
 len:ds.length=be.length+1
 zero:ds[0]? =some 0
 mono:ds.Pairwise (· <= ·)
 near:∀(j:Nat) d d0,ds[j]? =some d->ds[P.length]? =some d0->d<=d0+1
 par:∀(j:Nat) n a,be[j]? =some (n,a)->n∈aK zs a/\ ∃i d:Nat,i<=j/\(zone::be.map (·.1))[i]? =some a/\ds[i]? =some d/\ds[j+1]? =some (d+1)
 done:∀(i:Nat) a,i<P.length->(P++Q)[i]? =some a->zone ∉ aK zs a/\ ∀n∈aK zs a,∃j d d' :Nat,(P++Q)[j]? =some n/\ds[i]? =some d/\ds[j]? =some d' /\d' <=d+1
 keys:∀p∈be,p.1∈ar zs
theorem eV.start(zs:List ag)(zone:Bs):eV zs zone [] [zone] [] [0] :=
 ⟨rfl,by simp,rfl,rfl,by simp,fun j d d0 hj h0=>by
  rcases j with _ | j
  . cases hj;omega
  . simp at hj,fun j n a h=>by simp at h,fun i a h=>by simp at h,fun p hp=>by cases hp⟩
theorem vR{be:List (Bs×Bs)}{n:Bs}:lz be n=true ↔ n∈be.map (·.1):=by
 unfold lz;rw[List.any_eq_true,List.mem_map];constructor
 . rintro⟨p,hp,he⟩;exact⟨p,hp,by simpa using he⟩
 . rintro⟨p,hp,rfl⟩;exact⟨p,hp,by simp⟩
theorem eV.push{zs:List ag}{zone a n:Bs}{P qu:List Bs}{be:List (Bs×Bs)}{ds:List Nat}(h:eV zs zone P (a::qu) be ds)(hn:n∈aK zs a)(hz:n ≠ zone)(hs:lz be n=false)(hk:n∈ar zs) :
 ∃d0,ds[P.length]? =some d0/\eV zs zone P (a::(qu++[n])) (be++[(n,a)]) (ds++[d0+1])/\(P++a::(qu++[n]))[be.length+1]? =some n/\(ds++[d0+1])[be.length+1]? =some (d0+1):=by
 have hpl:P.length<ds.length:=by
  have:=congrArg List.length h.all;simp at this;rw[h.len];omega
 obtain⟨d0,hd0⟩:∃d0,ds[P.length]? =some d0:=⟨_,List.getElem?_eq_getElem hpl⟩
 have hall:P++a::(qu++[n])=zone::(be++[(n,a)]).map (·.1):=by
  have:P++a::(qu++[n])=(P++a::qu)++[n]:=by simp
  rw[this,h.all];simp
 have hold:∀{j:Nat} {d:Nat},ds[j]? =some d->(ds++[d0+1])[j]? =some d:=fun{j d} hj=>by
  rw[List.getElem?_append_left (List.getElem?_eq_some_iff.1 hj).1];exact hj
 have hLa:(P++a::qu)[P.length]? =some a:=by rw[List.getElem?_append_right (Nat.le_refl _)];simp
 have hlast:(ds++[d0+1])[be.length+1]? =some (d0+1):=by rw[<- h.len];simp
 have hLold:∀{j:Nat} {x:Bs},(P++a::qu)[j]? =some x->(P++a::(qu++[n]))[j]? =some x:=fun{j x} hj=>by
  have:P++a::(qu++[n])=(P++a::qu)++[n]:=by simp
  rw[this,List.getElem?_append_left (List.getElem?_eq_some_iff.1 hj).1];exact hj
 have hlen1:(P++a::qu).length=be.length+1:=by rw[h.all];simp
 have hLn:(P++a::(qu++[n]))[be.length+1]? =some n:=by
  have:P++a::(qu++[n])=(P++a::qu)++[n]:=by simp
  rw[this, <- hlen1];simp
 have hnk:n ∉ be.map (·.1):=fun hm=>by rw[vR.2 hm]at hs;cases hs
 refine⟨d0,hd0,⟨hall,?_,by simp[h.len],hold h.zero,?_,fun j d e hj he=>?_,fun j m b hj=>?_,fun i b hi hb=>?_,fun p hp=>?_⟩,hLn,hlast⟩
 . rw[List.map_append];show((zone::be.map (·.1))++[n]).Nodup
   refine List.nodup_append.2 ⟨h.nodup,by simp,fun x hx y hy=>?_⟩;rw[List.mem_singleton]at hy;subst hy;rintro rfl;rcases List.mem_cons.1 hx with hx | hx
   . exact hz hx
   . exact hnk hx
 . refine List.pairwise_append.2 ⟨h.mono,by simp,fun x hx y hy=>?_⟩;rw[List.mem_singleton]at hy;subst hy;obtain⟨j,hj⟩:=List.getElem?_of_mem hx;exact h.near j x d0 hj hd0
 . rw[hold hd0]at he;cases he;by_cases hl:j<ds.length
   . rw[List.getElem?_append_left hl]at hj;exact h.near j d d0 hj hd0
   . have:j=ds.length:=by
      have:=(List.getElem?_eq_some_iff.1 hj).1;simp at this;omega
     subst this;simp at hj;omega
 . by_cases hl:j<be.length
   . rw[List.getElem?_append_left hl]at hj;obtain⟨h1,i,d,h2,h3,h4,h5⟩:=h.par j m b hj;refine⟨h1,i,d,h2,?_,hold h4,hold h5⟩;rw[<- hall];rw[<- h.all]at h3;exact hLold h3
   . have:j=be.length:=by
      have:=(List.getElem?_eq_some_iff.1 hj).1;simp at this;omega
     subst this;rw[List.getElem?_append_right (Nat.le_refl _),Nat.sub_self]at hj;cases hj;refine⟨hn,P.length,d0,?_,?_,hold hd0,hlast⟩
     . rw[h.len]at hpl;omega
     . rw[<- hall];exact hLold hLa
 . have hb' :(P++a::qu)[i]? =some b:=by
    rw[List.getElem?_append_left hi]at hb ⊢;exact hb
   obtain⟨h1,h2⟩:=h.done i b hi hb';refine⟨h1,fun m hm=>?_⟩;obtain⟨j,d,d',e1,e2,e3,e4⟩:=h2 m hm;exact⟨j,d,d',hLold e1,hold e2,hold e3,e4⟩
 . rcases List.mem_append.1 hp with hp | hp
   . exact h.keys p hp
   . rw[List.mem_singleton.1 hp];exact hk
theorem tV{zs:List ag}{zone a:Bs}(hkeys:∀n∈aK zs a,n∈ar zs){P:List Bs}:∀(t qu:List Bs) (be:List (Bs×Bs)) (ds:List Nat),eV zs zone P (a::qu) be ds->(∀n∈t,n∈aK zs a) ->
 ∃ds',eV zs zone P (a::(cu zone a t qu be).2.1) (cu zone a t qu be).2.2 ds' /\((cu zone a t qu be).1=true->zone∈t) /\
  ((cu zone a t qu be).1=false->zone ∉ t/\ ∀n∈t,∃j d d' :Nat,(P++a::(cu zone a t qu be).2.1)[j]? =some n/\ds'[P.length]? =some d/\ds'[j]? =some d' /\d' <=d+1) /\
  ((cu zone a t qu be).2.1.length+be.length=(cu zone a t qu be).2.2.length+qu.length) /\
  (∀(j:Nat) x,(P++a::qu)[j]? =some x->(P++a::(cu zone a t qu be).2.1)[j]? =some x)/\(∀(j:Nat) d,ds[j]? =some d->ds'[j]? =some d)
 | [],qu,be,ds,h,_=>⟨ds,h,fun e=>(by cases e),fun _=>⟨by simp,fun n hn=>by cases hn⟩,(by show qu.length+be.length=be.length+qu.length;omega),fun j x h=>h,fun j d h=>h⟩
 | n::t,qu,be,ds,h,ht=>by
  have hn:=ht n (List.mem_cons_self ..);have ht' :∀m∈t,m∈aK zs a:=fun m hm=>ht m (List.mem_cons_of_mem _ hm)
  unfold cu;by_cases hz:n=zone
  . rw[if_pos hz];exact⟨ds,h,fun _=>hz ▸ List.mem_cons_self .., fun e=>(by cases e),(by show qu.length+be.length=be.length+qu.length;omega),fun j x h=>h,fun j d h=>h⟩
  . rw[if_neg hz];have hpl:P.length<ds.length:=by
     have:=congrArg List.length h.all;simp at this;rw[h.len];omega
    obtain⟨d0,hd0⟩:∃d0,ds[P.length]? =some d0:=⟨_,List.getElem?_eq_getElem hpl⟩
    by_cases hs:lz be n=true
    . rw[if_pos hs];obtain⟨ds',i1,i2,i3,i4,i5,i6⟩:=tV hkeys t qu be ds h ht';refine⟨ds',i1,fun e=>List.mem_cons_of_mem _ (i2 e),fun e=>?_,i4,i5,i6⟩;obtain⟨j1,j2⟩:=i3 e;refine⟨fun hm=>?_,fun m hm=>?_⟩
      . rcases List.mem_cons.1 hm with hm | hm
        . exact hz hm.symm
        . exact j1 hm
      . rcases List.mem_cons.1 hm with rfl | hm
        . obtain⟨j,hj⟩:=List.getElem?_of_mem (vR.1 hs);have hL:(P++a::qu)[j+1]? =some m:=by rw[h.all];simpa using hj
          have hjl:j+1<ds.length:=by
           have:=(List.getElem?_eq_some_iff.1 hj).1;simp at this;rw[h.len];omega
          obtain⟨d',hd'⟩:∃d',ds[j+1]? =some d' :=⟨_,List.getElem?_eq_getElem hjl⟩
          exact⟨j+1,d0,d',i5 _ _ hL,i6 _ _ hd0,i6 _ _ hd',h.near _ _ _ hd' hd0⟩
        . exact j2 m hm
    . rw[if_neg hs];obtain⟨d0',e1,e2,e3,e4⟩:=h.push hn hz (by simpa using hs) (hkeys n hn);rw[hd0]at e1;cases e1;obtain⟨ds',i1,i2,i3,i4,i5,i6⟩:=tV hkeys t (qu++[n]) (be++[(n,a)]) (ds++[d0+1]) e2 ht';have hold:∀(j:Nat) d,ds[j]? =some d->ds'[j]? =some d:=fun j d hj=>i6 j d (by rw[List.getElem?_append_left (List.getElem?_eq_some_iff.1 hj).1];exact hj)
      refine⟨ds',i1,fun e=>List.mem_cons_of_mem _ (i2 e),fun e=>?_,?_,fun j x hj=>i5 j x ?_,hold⟩
      . obtain⟨j1,j2⟩:=i3 e;refine⟨fun hm=>?_,fun m hm=>?_⟩
        . rcases List.mem_cons.1 hm with hm | hm
          . exact hz hm.symm
          . exact j1 hm
        . rcases List.mem_cons.1 hm with rfl | hm
          . exact⟨be.length+1,d0,d0+1,i5 _ _ e3,hold _ _ hd0,i6 _ _ e4,Nat.le_refl _⟩
          . exact j2 m hm
      . simp at i4;omega
      . have:P++a::(qu++[n])=(P++a::qu)++[n]:=by simp
        rw[this,List.getElem?_append_left (List.getElem?_eq_some_iff.1 hj).1];exact hj
theorem eV.next{zs:List ag}{zone a:Bs}{P qu:List Bs}{be:List (Bs×Bs)}{ds:List Nat}(h:eV zs zone P (a::qu) be ds)(hz:zone ∉ aK zs a)
 (hn:∀n∈aK zs a,∃j d d' :Nat,(P++a::qu)[j]? =some n/\ds[P.length]? =some d/\ds[j]? =some d' /\d' <=d+1):eV zs zone (P++[a]) qu be ds:=by
 have e:(P++[a])++qu=P++a::qu:=by simp
 refine⟨by rw[e];exact h.all,h.nodup,h.len,h.zero,h.mono,fun j d d1 hj h1=>?_,h.par,fun i b hi hb=>?_,h.keys⟩
 . have hl:(P++[a]).length=P.length+1:=by simp
   rw[hl]at h1;have hlt:=(List.getElem?_eq_some_iff.1 h1).1;have h0:ds[P.length]? =some ds[P.length]:=List.getElem?_eq_getElem (by omega);have h2:=h.near j d _ hj h0;have h3:ds[P.length]<=ds[P.length+1]:=List.pairwise_iff_getElem.1 h.mono _ _ (by omega) hlt (by omega);have h4:ds[P.length+1]=d1:=(List.getElem?_eq_some_iff.1 h1).2;omega
 . rw[e]at hb ⊢;by_cases hl:i<P.length
   . exact h.done i b hl hb
   . have:i=P.length:=by simp at hi;omega
     subst this;have:b=a:=by
      rw[List.getElem?_append_right (Nat.le_refl _),Nat.sub_self]at hb;cases hb;rfl
     subst this;exact⟨hz,hn⟩
theorem eV.rP{zs:List ag}{zone:Bs}{P Q:List Bs}{be:List (Bs×Bs)}{ds:List Nat}(h:eV zs zone P Q be ds):be.length<=(ar zs).length:=by
 have h1:(be.map (·.1)).Nodup:=(List.nodup_cons.1 h.nodup).2;have:=iU h1 (m:=ar zs) fun a ha=>by
  obtain⟨p,hp,rfl⟩:=List.mem_map.1 ha;exact h.keys p hp
 simpa using this
theorem GO{zs:List ag}(hg:bU zs){zone:Bs}(hv:ai zone=true):∀(f:Nat) (P qu:List Bs) (be:List (Bs×Bs)) (ds:List Nat),eV zs zone P qu be ds->2*((ar zs).length-be.length)+qu.length<f ->
 match lP zs zone f qu be with
  | none=> ∃P' be' ds',eV zs zone P' [] be' ds'
  | some x=> ∃P' qu' ds',eV zs zone P' (x.1::qu') x.2 ds' /\zone∈aK zs x.1
 | 0,P,qu,be,ds,h,hf=>by omega
 | f+1,P,[],be,ds,h,hf=>⟨P,be,ds,h⟩
 | f+1,P,a::qu,be,ds,h,hf=>by
  have ham:a∈zone::be.map (·.1):=by rw[<- h.all];simp
  have hav:ai a=true:=by
   rcases List.mem_cons.1 ham with rfl | hm
   . exact hv
   . obtain⟨p,hp,rfl⟩:=List.mem_map.1 hm;exact dW hg ((cj zs _).2 (ck.1 (h.keys p hp)))
  have hkeys:∀n∈aK zs a,n∈ar zs:=fun n hn=>ck.2 ((cj zs n).1 (sN hg hav n hn))
  obtain⟨ds',i1,i2,i3,i4,i5,i6⟩:=tV hkeys (aK zs a) qu be ds h fun n hn=>hn
  unfold lP;by_cases hs:(cu zone a (aK zs a) qu be).1=true
  . rw[if_pos hs];exact⟨P,_,ds',i1,i2 hs⟩
  . rw[if_neg hs];obtain⟨j1,j2⟩:=i3 (by simpa using hs);have hnx:=i1.next j1 j2
    have h1:=hnx.rP;have h2:=h.rP;have h3:be.length<=(cu zone a (aK zs a) qu be).2.2.length:=by
     have hl:be.length<ds.length:=by rw[h.len];omega
     have:=(List.getElem?_eq_some_iff.1 (i6 be.length _ (List.getElem?_eq_getElem hl))).1;rw[hnx.len]at this;omega
    refine GO hg hv f _ _ _ ds' hnx ?_;simp at hf;omega
theorem Et{zs:List ag}{zone:Bs}{P Q:List Bs}{be:List (Bs×Bs)}{ds:List Nat}(h:eV zs zone P Q be ds){j:Nat}{n a:Bs}(hj:be[j]? =some (n,a)):nu be n=a:=by
 unfold nu;have hnd:(be.map (·.1)).Nodup:=(List.nodup_cons.1 h.nodup).2;cases hf:be.find? (fun p=>p.1==n)with
 | none =>
  have:=List.find?_eq_none.1 hf (n,a) (List.mem_of_getElem? hj);simp at this
 | some p =>
  have h1:=List.mem_of_find?_eq_some hf;have h2:p.1=n:=by have:=List.find?_some hf;simpa using this
  obtain⟨i,hi⟩:=List.getElem?_of_mem h1;have hij:i=j:=by
   have a1:(be.map (·.1))[i]? =some n:=by rw[List.getElem?_map,hi];simp[h2]
   have a2:(be.map (·.1))[j]? =some n:=by rw[List.getElem?_map,hj];rfl
   exact oO hnd a1 a2
  subst hij;rw[hi]at hj;cases hj;rfl
structure M1(zs:List ag)(zone:Bs)(L:List Bs)(i d:Nat)(last:Bs)(p:List Bs):Prop where
 len:p.length=d
 ends:(last::p)[d]? =some zone
 link:∀(k:Nat) x y,(last::p)[k]? =some x->(last::p)[k+1]? =some y->x∈aK zs y
 nodup:(last::p).Nodup
 below:∀x∈p,∃i',i' <i/\L[i']? =some x
theorem Ep{zs:List ag}{zone:Bs}{P Q:List Bs}{be:List (Bs×Bs)}{ds:List Nat}(h:eV zs zone P Q be ds):∀(f i:Nat) (last:Bs),(zone::be.map (·.1))[i]? =some last->i<f-> ∃d,ds[i]? =some d/\M1 zs zone (zone::be.map (·.1)) i d last (lu be zone f last)
 | 0,i,last,hi,hf=>by omega
 | f+1,i,last,hi,hf=>by
  have huniq:∀{i j:Nat} {x:Bs},(zone::be.map (·.1))[i]? =some x->(zone::be.map (·.1))[j]? =some x->i=j:=fun{i j x} a1 a2=>oO h.nodup a1 a2
  unfold lu;by_cases hz:last=zone
  . rw[if_pos hz];have:i=0:=huniq hi (by rw[hz];rfl);subst this;exact⟨0,h.zero,rfl,by rw[hz];rfl,fun k x y _ hy=>by simp at hy,by simp,fun x hx=>by cases hx⟩
  . rw[if_neg hz];obtain⟨j,rfl⟩:∃j,i=j+1:=by
     rcases i with _ | j
     . cases hi;exact absurd rfl hz
     . exact⟨j,rfl⟩
    have hi' :(be.map (·.1))[j]? =some last:=by simpa using hi
    rw[List.getElem?_map]at hi';cases hb:be[j]? with
    | none=>rw[hb]at hi';cases hi'
    | some pr =>
     obtain⟨n,a⟩:=pr;rw[hb]at hi';have:n=last:=by simpa using hi'
     subst this;obtain⟨hm,i',d,h1,h2,h3,h4⟩:=h.par j n a hb;rw[Et h hb];obtain⟨d',e1,ih⟩:=Ep h f i' a h2 (by omega);rw[h3]at e1;cases e1;refine⟨d+1,h4,by simp[ih.len],?_,fun k x y hx hy=>?_,?_,fun x hx=>?_⟩
     . rw[List.getElem?_cons_succ];exact ih.ends
     . rcases k with _ | k
       . cases hx;rw[List.getElem?_cons_succ]at hy;cases hy;exact hm
       . rw[List.getElem?_cons_succ]at hx hy;exact ih.link k x y hx hy
     . refine List.nodup_cons.2 ⟨fun hx=>?_,ih.nodup⟩;have:∃q,q<j+1/\(zone::be.map (·.1))[q]? =some n:=by
        rcases List.mem_cons.1 hx with rfl | hx
        . exact⟨i',by omega,h2⟩
        . obtain⟨q,hq,hq'⟩:=ih.below _ hx;exact⟨q,by omega,hq'⟩
       obtain⟨q,hq,hq'⟩:=this;have:=huniq hi hq';omega
     . rcases List.mem_cons.1 hx with rfl | hx
       . exact⟨i',by omega,h2⟩
       . obtain⟨q,hq,hq'⟩:=ih.below _ hx;exact⟨q,by omega,hq'⟩
def Cyc(zs:List ag)(z:Bs)(n:Nat):Prop:= ∃c:Nat->Bs,0<n/\c 0=z/\z∈aK zs (c (n-1))/\ ∀i,i+1<n->c (i+1)∈aK zs (c i)
structure EL(zs:List ag)(zone:Bs)(l:List Bs):Prop where
 head:l[0]? =some zone
 nodup:l.Nodup
 next:∀(i:Nat) a,l[i]? =some a-> ∃b,l[(i+1) % l.length]? =some b/\b∈aK zs a
 keys:∀a∈l,a=zone\/a∈ar zs
 least:∀n,Cyc zs zone n->l.length<=n
theorem qN{zs:List ag}(hg:bU zs){zone:Bs}(hv:ai zone=true):(bN zs zone=[]/\ ∀n,¬Cyc zs zone n)\/EL zs zone (bN zs zone):=by
 have hb:=GO hg hv (2*(ar zs).length+2) [] [zone] [] [0] (eV.start zs zone) (by simp);unfold bN;cases hr:lP zs zone (2*(ar zs).length+2) [zone] []with
 | none =>
  rw[hr]at hb;obtain⟨P,be,ds,h⟩:=hb;refine .inl ⟨rfl,fun n ⟨c,hn,h0,hz,hc⟩=>?_⟩;have hP:P=zone::be.map (·.1):=by have:=h.all;simpa using this
  have key:∀t,t<n-> ∃i,i<P.length/\P[i]? =some (c t):=fun t=>by
   induction t with
   | zero=>intro _;exact⟨0,by rw[hP];simp,by rw[hP,h0];rfl⟩
   | succ t ih =>
    intro ht;obtain⟨i,hi,hci⟩:=ih (by omega);obtain⟨_,h2⟩:=h.done i (c t) hi (by simpa using hci);obtain⟨j,d,d',e1,_⟩:=h2 _ (hc t ht);rw[List.append_nil]at e1;exact⟨j,(List.getElem?_eq_some_iff.1 e1).1,e1⟩
  obtain⟨i,hi,hci⟩:=key (n-1) (by omega);exact(h.done i _ hi (by simpa using hci)).1 hz
 | some x =>
  rw[hr]at hb;obtain⟨last,be⟩:=x;obtain⟨P,qu,ds,h,hz⟩:=hb;dsimp only at h hz ⊢;have hlast:(zone::be.map (·.1))[P.length]? =some last:=by rw[<- h.all,List.getElem?_append_right (Nat.le_refl _)];simp
  have hPl:P.length<be.length+1:=by
   have:=(List.getElem?_eq_some_iff.1 hlast).1;simpa using this
  obtain⟨d,hd,hp⟩:=Ep h (be.length+1) P.length last hlast hPl;generalize lu be zone (be.length+1) last=p at hp;have hlen:(last::p).length=d+1:=by simp[hp.len]
  have hrev:∀(i:Nat),i<d+1->(last::p).reverse[i]? =(last::p)[d-i]? :=fun i hi=>by
   rw[List.getElem?_reverse (by rw[hlen];exact hi),hlen]
   congr 1
  refine .inr ⟨?_,?_,fun i a ha=>?_,fun a ha=>?_,fun n ⟨c,hn,h0,hcz,hc⟩=>?_⟩
  . rw[hrev 0 (by omega)];exact hp.ends
  . unfold List.Nodup;rw[List.pairwise_reverse];exact List.Pairwise.imp (fun h=>Ne.symm h) hp.nodup
  . have hi:i<d+1:=by
     have:=(List.getElem?_eq_some_iff.1 ha).1;rw[List.length_reverse,hlen]at this;exact this
    rw[hrev i hi]at ha;rw[List.length_reverse,hlen];by_cases hl:i=d
    . subst hl;rw[Nat.sub_self]at ha;cases ha;rw[Nat.mod_self,hrev 0 (by omega)];exact⟨zone,hp.ends,hz⟩
    . rw[Nat.mod_eq_of_lt (by omega),hrev (i+1) (by omega)];have hlt:d-(i+1)<(last::p).length:=by rw[hlen];omega
      refine⟨_,List.getElem?_eq_getElem hlt,hp.link (d-(i+1)) _ a (List.getElem?_eq_getElem hlt) ?_⟩;rw[show d-(i+1)+1=d-i by omega];exact ha
  . have ha:=List.mem_reverse.1 ha;have:a∈zone::be.map (·.1):=by
     rcases List.mem_cons.1 ha with rfl | ha
     . exact List.mem_of_getElem? hlast
     . obtain⟨_,_,h'⟩:=hp.below _ ha;exact List.mem_of_getElem? h'
    rcases List.mem_cons.1 this with h' | h'
    . exact .inl h'
    . obtain⟨q,hq,rfl⟩:=List.mem_map.1 h';exact .inr (h.keys q hq)
  . rw[List.length_reverse,hlen];have key:∀t,t<n->(∃i e:Nat,i<P.length/\(P++last::qu)[i]? =some (c t)/\ds[i]? =some e/\e<=t)\/d<=t:=fun t=>by
     induction t with
     | zero =>
      intro _;by_cases hp0:0<P.length
      . exact .inl ⟨0,0,hp0,by rw[h.all,h0];rfl,h.zero,Nat.le_refl _⟩
      . have:P.length=0:=by omega
        rw[this,h.zero]at hd;cases hd;exact .inr (Nat.le_refl _)
     | succ t ih =>
      intro ht;rcases ih (by omega)with ⟨i,e,hi,hci,he,het⟩ | hdt
      . obtain⟨_,h2⟩:=h.done i (c t) hi hci;obtain⟨j,e1,e2,f1,f2,f3,f4⟩:=h2 _ (hc t ht);rw[he]at f2;cases f2;by_cases hj:j<P.length
        . exact .inl ⟨j,e2,hj,f1,f3,by omega⟩
        . right
          have hjl:=(List.getElem?_eq_some_iff.1 f3)
          obtain⟨hjl,hje⟩:=hjl;have hdl:=(List.getElem?_eq_some_iff.1 hd)
          obtain⟨hdl,hde⟩:=hdl;by_cases he:P.length=j
          . subst he;omega
          . have:=List.pairwise_iff_getElem.1 h.mono P.length j hdl hjl (by omega);omega
      . exact .inr (by omega)
    rcases key (n-1) (by omega)with ⟨i,e,hi,hci,_⟩ | hdt
    . exact absurd hcz (h.done i _ hi hci).1
    . omega
theorem EL.Ch{zs:List ag}{zone:Bs}{l:List Bs}(h:EL zs zone l){k:Nat}{z:Bs}(hk:l[k]? =some z):Cyc zs z l.length:=by
 have hpos:0<l.length:=(List.getElem?_eq_some_iff.1 h.head).1;have hkl:=(List.getElem?_eq_some_iff.1 hk).1;have at_:∀i,l[(k+i) % l.length]? =some (l.getD ((k+i) % l.length) []):=fun i=>by
  have:=Nat.mod_lt (k+i) hpos;simp[List.getD,List.getElem?_eq_getElem this]
 have step:∀i,l.getD ((k+(i+1)) % l.length) []∈aK zs (l.getD ((k+i) % l.length) []):=fun i=>by
  obtain⟨b,hb,hm⟩:=h.next _ _ (at_ i)
  rw[Nat.mod_add_mod]at hb;have:k+i+1=k+(i+1):=by omega
  rw[this,at_ (i+1)]at hb;cases hb;exact hm
 refine⟨fun i=>l.getD ((k+i) % l.length) [],hpos,?_,?_,fun i _=>step i⟩
 . have:=at_ 0;rw[Nat.add_zero,Nat.mod_eq_of_lt hkl,hk]at this;show l.getD ((k+0) % l.length) []=z
   rw[Nat.add_zero,Nat.mod_eq_of_lt hkl];exact(Option.some.inj this).symm
 . have:=step (l.length-1);rw[show k+(l.length-1+1)=k+l.length by omega,Nat.add_mod_right,Nat.mod_eq_of_lt hkl]at this;have e:l.getD k []=z:=by simp[List.getD,hk]
   rw[e]at this;exact this
/-! ### gi -/
def kj(l:List Bs)(s:Bs):List Bs:=if l.contains s=true then l else pk s l
theorem MY{l:List Bs}{s:Bs}(h1:l.Pairwise fun a b=>au a b<=0)(h2:l.Nodup):((kj l s).Pairwise fun a b=>au a b<=0)/\(kj l s).Nodup/\ ∀x,x∈kj l s ↔ x∈l\/x=s:=by
 unfold kj;by_cases hc:l.contains s=true
 . rw[if_pos hc];have hm:=List.contains_iff_mem.1 hc;exact⟨h1,h2,fun x=>⟨.inl,fun h=>h.elim id fun e=>e ▸ hm⟩⟩
 . rw[if_neg hc];have hm:s ∉ l:=fun e=>hc (List.contains_iff_mem.2 e)
   refine⟨pn s l h1,(kP s l).nodup_iff.2 (List.nodup_cons.2 ⟨hm,h2⟩),fun x=>?_⟩;rw[(kP s l).mem_iff,List.mem_cons];exact Or.comm
def ir(zs:List ag)(out:List Bs):List Bs:=zs.foldl (fun out p=>kj out p.zone.apex) out
theorem ve:∀(zs:List ag) (out:List Bs),(out.Pairwise fun a b=>au a b<=0)->out.Nodup->((ir zs out).Pairwise fun a b=>au a b<=0)/\(ir zs out).Nodup/\ ∀x,x∈ir zs out ↔ x∈out\/ ∃p∈zs,p.zone.apex=x
 | [],out,h1,h2=>⟨h1,h2,fun x=>by simp[ir]⟩
 | p::t,out,h1,h2=>by
  obtain⟨k1,k2,k3⟩:=MY (s:=p.zone.apex) h1 h2;obtain⟨r1,r2,r3⟩:=ve t (kj out p.zone.apex) k1 k2;refine⟨r1,r2,fun x=>(r3 x).trans ?_⟩;rw[k3];constructor
  . rintro((h | h) | ⟨q,hq,e⟩)
    . exact .inl h
    . exact .inr ⟨p,List.mem_cons_self .., h.symm⟩
    . exact .inr ⟨q,List.mem_cons_of_mem _ hq,e⟩
  . rintro(h | ⟨q,hq,e⟩)
    . exact .inl (.inl h)
    . rcases List.mem_cons.1 hq with rfl | hq
      . exact .inl (.inr e.symm)
      . exact .inr ⟨q,hq,e⟩
theorem Jm(zs:List ag):ir zs []=ar zs:=by
 obtain⟨r1,r2,r3⟩:=ve zs [] List.Pairwise.nil List.nodup_nil;unfold ar;refine ml (((List.perm_ext_iff_of_nodup r2 (jN zs)).2 fun x=>?_).trans (dR _).symm) r1 (eR _);rw[r3,sH];simp
theorem ES(l:List ag)(p:ag)(out:List Bs):ir (l++[p]) out=kj (ir l out) p.zone.apex:=by unfold ir;rw[List.foldl_append];rfl
theorem yw:∀(zs:List ag) (out:List Bs),(ir zs out).length<=out.length+zs.length
 | [],out=>by simp[ir]
 | p::t,out=>by
  have:=yw t (kj out p.zone.apex);have h2:(kj out p.zone.apex).length<=out.length+1:=by
   unfold kj;split
   . omega
   . rw[(kP _ _).length_eq];simp
  show(ir t (kj out p.zone.apex)).length<=_
  rw[List.length_cons];omega
theorem M8{x s:Bs}(hne:x ≠ s):decide (au x s>0)=decide (au s x<=0):=by
 have h1:=aG.anti x s;have h2:au s x ≠ 0:=fun e=>hne ((aG.zero s x).1 e).symm
 by_cases h:au s x<=0
 . rw[decide_eq_true h,decide_eq_true (by omega)]
 . rw[decide_eq_false h,decide_eq_false (by omega)]
/-! ### Delegations -/
def jo(r:List Bs):List (Bs×D):=r.map fun a=>(a, .bool true)
theorem lA(a:Bs):∀r:List Bs,bJ a (jo r)=if r.contains a=true then some (.bool true)else none
 | []=>rfl
 | b::t=>by
  show(if a=b then _ else bJ a (jo t))=_
  rw[lA a t,List.contains_cons];by_cases h:a=b
  . subst h;simp
  . rw[if_neg h,show(a==b)=false by simpa using h,Bool.false_or]
theorem sZ{a:Bs}:∀{r:List Bs},r.contains a=false->bM a (.bool true) (jo r)=jo (r++[a])
 | [],_=>rfl
 | b::t,h=>by
  rw[List.contains_cons,Bool.or_eq_false_iff]at h;have hne:¬a=b:=by simpa using h.1
  show(if a=b then _ else(b,_)::bM a _ (jo t))=_
  rw[if_neg hne,sZ h.2];rfl
def Oj(r:List Bs)(a:Bs):List Bs:=if r.contains a=true then r else r++[a]
def dL(l r:List Bs):List Bs:=l.foldl Oj r
theorem Bx{zs:List ag}(hg:bU zs){a:Bs}(hv:ai a=true)(h:a∈aK zs a):bN zs a=[a]:=by
 have hc:Cyc zs a 1:=⟨fun _=>a,by omega,rfl,h,fun i hi=>by omega⟩
 rcases qN hg hv with ⟨_,h2⟩ | L
 . exact absurd hc (h2 1)
 . have h1:=L.least 1 hc;have h0:=L.head;generalize bN zs a=l at *
   match l,h0,h1 with
   | [x],h0,_=>cases h0;rfl
   | [],h0,_=>cases h0
   | x::y::t,_,h1=>simp at h1
theorem FJ{zs:List ag}(hg:bU zs){a:Bs}(hk:a∈ar zs){i:Nat}{z:Bs}(hz:(bN zs a)[i]? =some z) :
 (bN zs a).Nodup/\(bN zs a)[0]? =some a/\z∈ar zs/\(bN zs z).length<=(bN zs a).length/\0<(bN zs z).length/\ ∃b,(bN zs a)[(i+1) % (bN zs a).length]? =some b/\b∈aK zs z:=by
 have hv:=dW hg ((cj zs a).2 (ck.1 hk));rcases qN hg hv with ⟨h1,_⟩ | L
 . rw[h1]at hz;simp at hz
 . have hzk:z∈ar zs:=by
    rcases L.keys z (List.mem_of_getElem? hz)with e | e
    . rw[e];exact hk
    . exact e
   have hzv:=dW hg ((cj zs z).2 (ck.1 hzk));have hc:=L.Ch hz;rcases qN hg hzv with ⟨_,h2⟩ | M
   . exact absurd hc (h2 _)
   . exact⟨L.nodup,L.head,hzk,M.least _ hc,(List.getElem?_eq_some_iff.1 M.head).1,L.next i z hz⟩
/-! ### Other owners -/
def jH(f:Nat->Int):Nat->List de->List de
 | _,[]=>[]
 | i,h::t=>⟨h.name,h.addr,f i⟩::jH f (i+1) t
theorem lW(f:Nat->Int):∀(i:Nat) (l:List de),(jH f i l).length=l.length
 | _,[]=>rfl
 | i,h::t=>by rw[jH,List.length_cons,List.length_cons,lW f (i+1) t]
theorem y0{f:Nat->Int}(hf:∀i,0<=f i/\f i<32):∀(l:List de) (i:Nat) (seen:List Int),dh seen l=true->dh seen (jH f i l)=true
 | [],_,_,_=>rfl
 | h::t,i,seen,hs=>by
  unfold dh at hs;unfold jH dh;simp only[Bool.and_eq_true,Bool.not_eq_true',Bool.or_eq_false_iff,decide_eq_false_iff_not]at hs ⊢;have:=hf i;exact⟨⟨⟨⟨hs.1.1.1.1,by omega⟩,by omega⟩,hs.1.2⟩,y0 hf t (i+1) _ hs.2⟩
theorem uK(f:Nat->Int):∀(i:Nat) (a b:List de),jH f i (a++b)=jH f i a++jH f (i+a.length) b
 | i,[],b=>by simp[jH]
 | i,h::t,b=>by
  have:i+1+t.length=i+(h::t).length:=by simp;omega
  rw[List.cons_append,jH,uK f (i+1) t b,this];rfl
def nr(f:Nat->Int)(l:List de)(k:Nat):List de:=jH f 0 (l.take k)++l.drop k
theorem Oe{f:Nat->Int}{l:List de}{k:Nat}{h:de}(hk:l[k]? =some h):(nr f l k)[k]? =some h:=by
 have hlt:=(List.getElem?_eq_some_iff.1 hk).1;unfold nr;rw[List.getElem?_append_right (by rw[lW,List.length_take];omega),lW,List.length_take,Nat.min_eq_left (by omega),Nat.sub_self,drop_cons hk];rfl
theorem Og(f:Nat->Int)(l:List de)(k:Nat):(nr f l k).length=l.length:=by
 unfold nr;rw[List.length_append,lW, <- List.length_append,List.take_append_drop]
theorem Oh{f:Nat->Int}{l:List de}{k:Nat}{h:de}(hk:l[k]? =some h):(nr f l k).set k ⟨h.name,h.addr,f k⟩=nr f l (k+1):=by
 have hlt:=(List.getElem?_eq_some_iff.1 hk).1;unfold nr;have hl:(jH f 0 (l.take k)).length=k:=by rw[lW,List.length_take];omega
 have hl2:(l.take k).length=k:=by rw[List.length_take];omega
 rw[List.set_append_right _ _ (by omega),hl,Nat.sub_self,drop_cons hk,aS hk,uK,hl2,Nat.zero_add];show jH f 0 (l.take k)++⟨h.name,h.addr,f k⟩::l.drop (k+1)=(jH f 0 (l.take k)++jH f k [h])++l.drop (k+1)
 rw[List.append_assoc];rfl
theorem Od(f:Nat->Int)(l:List de):nr f l l.length=jH f 0 l:=by unfold nr;rw[List.take_length,List.drop_length,List.append_nil]
def xt(f:Nat->Int)(w:aQ):aQ:=⟨jH f 0 w.hosts,w.zones.reverse,w.anchor,w.hints⟩
theorem N8{f:Nat->Int}(hf:∀i,0<=f i/\f i<32){w:aQ}(h:aX w=true):aX (xt f w)=true:=by
 have ho:=Ds h;unfold aX iR gX at h ho ⊢;simp only[Bool.and_eq_true,decide_eq_true_eq]at h ho ⊢;obtain⟨⟨⟨a1,a2⟩,_⟩,c⟩:=h;have e:(xt f w).hosts.length=w.hosts.length:=lW f 0 _;have e2:(BG w).hosts.length=w.hosts.length:=vO 0 _;refine⟨⟨⟨by rw[e];exact a1,y0 hf w.hosts 0 [] a2⟩,⟨ho.1.2.1.1,?_⟩,ho.1.2.2⟩,c⟩;have:=ho.1.2.1.2;rw[e2]at this;rw[e];exact this
theorem IX{f:Nat->Int}{w:aQ}(h:aX w=true)(a:Bs):(aN (xt f w).zones a).map (·.2)=(aN w.zones a).map (·.2):=(GZ (DG h) (fun p=>List.mem_reverse.symm) a).symm
theorem rz{zs zs' :List ag}(h:∀a,(aN zs a).map (·.2)=(aN zs' a).map (·.2)):∀(f:Nat) (met:List Bs) (s:Bs),cU zs f met s=cU zs' f met s
 | 0,met,s=>rfl
 | f+1,met,s=>by
  unfold cU;rw[FI h];split
  . rfl
  . split
    . rfl
    . exact rz h f _ _
theorem Ce(f:Nat->Int)(w:aQ):(dC (xt f w).zones).length=(dC w.zones).length:=by
 unfold dC;refine List.Perm.length_eq ?_;exact List.Perm.flatMap_right _ (List.reverse_perm w.zones)
theorem NS{f:Nat->Int}{w:aQ}(h:aX w=true)(s:Bs):mz (xt f w).zones s=mz w.zones s:=by
 unfold mz;rw[Ce,rz (IX h)]
def pJ(w:aQ)(s:Bs):List Bs×Bool×Int:=if (aX w&&ai s)=false then([],false,1)else((mz w.zones s).1,(mz w.zones s).2,0)
def cH(w:aQ)(a:Bs):Int:=if (aX w&&ai a)=false then 1 else if (aN w.zones a).isSome=true then 0 else 4
def jG(w:aQ)(a:Bs):List Bs×Int:=if cH w a=0 then(aK w.zones a,0)else([],cH w a)
def jE(w:aQ)(a:Bs):List Bs×Bool×Int:=if cH w a=0 then(bN w.zones a,decide (0<(bN w.zones a).length),0)else([],false,cH w a)
def oz(w:aQ):List Bs×Int:=if aX w=true then(cN w.zones,0)else([],1)
theorem lh{w:aQ}{a:Bs}(h:cH w a=0):aX w=true/\ai a=true/\(aN w.zones a).isSome=true:=by
 unfold cH at h;split at h
 . cases h
 . rename_i h1;split at h
   . rename_i h2;simp only[Bool.not_eq_false,Bool.and_eq_true]at h1;exact⟨h1.1,h1.2,h2⟩
   . cases h
theorem qI{w:aQ}(hF:jr w)(hv:aX w=true):bU w.zones:=fun p hp=>⟨hF.few p hp,(ot hv p hp).1⟩
def exS(n:Bs)(t:Int)(d:Datum):Signed:=⟨⟨n,t,0,[d]⟩,[]⟩
def tx(b:Bs):Datum:=⟨b,0,0⟩
def Gw(a host:Bs)(l:List Signed):aA:=⟨a,exS a 2 (tx host)::exS a 4 ⟨[],1,0⟩::l⟩
def N6:aA:=Gw [46] [97] [exS [120] 2 (tx [104,46,121]),exS [121] 2 (tx [104,46,120])]
def xL:aA:=Gw [120] [104,46,121] [exS [108,46,120] 3 (tx [109,46,120]),exS [109,46,120] 3 (tx [108,46,120])]
def yL:aA:=Gw [121] [104,46,120] []
def exL:aQ:=⟨[⟨[97],1,0⟩],[⟨0,N6⟩,⟨0,xL⟩,⟨0,yL⟩],⟨[46],6,0,[⟨[],1,1⟩]⟩,[1]⟩
def exN:aQ:=⟨[],[],⟨[],0,0,[]⟩,[]⟩
theorem nD:jr exL:=⟨by decide,by decide,by decide,fun p hp=>by
 rcases List.mem_cons.1 hp with rfl | hp
 . kernel_rfl
 . rcases List.mem_cons.1 hp with rfl | hp
   . kernel_rfl
   . rcases List.mem_cons.1 hp with rfl | hp
     . kernel_rfl
     . cases hp⟩
theorem L3:jr exN:=⟨by decide,by decide,by decide,fun p hp=>by cases hp⟩
theorem G8:pJ exL [108,46,120]=([[108,46,120],[109,46,120]],true,0):=by kernel_rfl
theorem JZ:pJ exL [120]=([],false,0):=by kernel_rfl
theorem Ha:jG exL [120]=([[121]],0):=by kernel_rfl
theorem Hb:oz exL=([[120],[121]],0):=by kernel_rfl
theorem G9:jE exL [120]=([[120],[121]],true,0):=by kernel_rfl
theorem Nb:jG exL [122]=([],4):=by kernel_rfl
theorem Hc:oz exN=([],1):=by kernel_rfl
def vz(l:List Bs)(s:Bs):Int:=if l.contains s=true then(l.idxOf s:Int)else -1
theorem Md{l:List Bs}{s:Bs}{k:Nat}(hno:(l.take k).contains s=false)(hx:l[k]? =some s):vz l s=k:=by
 have hm:s∈l:=List.mem_of_getElem? hx;unfold vz;rw[if_pos (List.contains_iff_mem.2 hm)];have hlt:=(List.getElem?_eq_some_iff.1 hx).1;have e:l.idxOf s=k:=by
  have h1:s ∉ l.take k:=fun e=>by rw[List.contains_iff_mem.2 e]at hno;cases hno
  rw[<- List.take_append_drop k l,List.idxOf_append,if_neg h1,drop_cons hx,List.length_take];simp;omega
 rw[e]
theorem Kj{l:List Bs}{s:Bs}(h:l.contains s=false):vz l s= -1:=by
 unfold vz;rw[if_neg (by rw[h];simp)]
theorem Kg(l:List Bs)(s:Bs):decide (vz l s>=0)=l.contains s:=by
 unfold vz;cases h:l.contains s with
 | true=>rw[if_pos rfl];exact decide_eq_true (Int.natCast_nonneg _)
 | false=>rw[if_neg (by simp)];rfl
def ni(w:aQ):Bool:=lR w&&decide ((w.zones.length:Int)<=12)
end NP
namespace Go.Proofs.YtcecidfnchcagaaGreatDoor
open NQ Go NP Go.RowKit
theorem Hv(l:List Bs)(s:Bs)(hl:l.length<=100000):NQ.Fn cx 86 [.slice 1 (l.map ao), .str s] (.d (.int .i64 (vz l s))) []:=by
 refine av aH mixed Tryz.func86 (by kernel_rfl) rfl (Nat.le_of_ble_eq_true rfl) ?_;conv=>whnf
 refine⟨Nat,fun k=>⟨[(0, .d (.slice 1 (l.map ao))),(1, .d (.str s)),(5, .d (.int .i64 k))],[]⟩,fun k=>k<=l.length/\(l.take k).contains s=false,fun k=>l.length-k,
  ⟨0,⟨Nat.zero_le _,rfl⟩,ah.keep ⟨⟨rfl,rfl⟩,⟨rfl,rfl⟩,⟨rfl,rfl⟩,trivial⟩ trivial⟩,fun k ⟨hk,hno⟩=>?_⟩
 dsimp only at hk hno ⊢
 conv=>whnf
 refine ae (fun h1=>?_) (fun h1=>?_) <;> (rw[h1];conv=>whnf)
 . have hlt:k<l.length:=by simpa using h1
   obtain⟨x,hx⟩:∃x,l[k]? =some x:=⟨_,List.getElem?_eq_getElem hlt⟩
   refine⟨Int.natCast_nonneg k,ao x,az hx,?_⟩
   conv=>whnf
   refine ae (fun h2=>?_) (fun h2=>?_) <;> (rw[h2];conv=>whnf)
   . have e:x=s:=by simpa using h2
     subst e;refine af rfl ?_;rw[Md hno hx];rfl
   . have hne:(x==s)=false:=h2;refine⟨k+1,⟨hlt,?_⟩,by(show l.length-(k+1)<l.length-k;omega),ah.keep ⟨⟨rfl,rfl⟩,⟨rfl,rfl⟩,⟨aj (by omega),rfl⟩,trivial⟩ trivial⟩;rw[aS hx];have hne' :(s==x)=false:=by rw[beq_eq_false_iff_ne]at hne ⊢;exact Ne.symm hne
     rw[Bool.eq_false_iff]at hno ⊢;intro e;rw[List.contains_iff_mem,List.mem_append,List.mem_singleton]at e;rcases e with e | e
     . exact hno (List.contains_iff_mem.2 e)
     . rw[e]at hne';simp at hne'
 . obtain rfl:k=l.length:=by simp at h1;omega
   rw[List.take_length]at hno;refine af rfl ?_;rw[Kj hno];rfl
end Go.Proofs.YtcecidfnchcagaaGreatDoor
namespace NP
open NQ Go
def j4(s:Bs)(put:Bool)(l:List Bs):List Bs:=if put=true then l else pk s l
theorem Ku(s:Bs)(put:Bool):j4 s put []=if put=true then[]else[s]:=rfl
theorem Kv(s x:Bs)(t:List Bs):j4 s true (x::t)=x::j4 s true t:=rfl
theorem H8{s x:Bs}{t:List Bs}(h:au s x<=0):j4 s false (x::t)=s::x::j4 s true t:=by
 unfold j4;rw[if_neg (by simp),if_pos rfl];unfold pk;rw[if_pos h]
theorem Ms{s x:Bs}{t:List Bs}(h:¬au s x<=0):j4 s false (x::t)=x::j4 s false t:=by
 unfold j4;rw[if_neg (by simp),if_neg (by simp)];rw[pk,if_neg h]
end NP
namespace Go.Proofs.YtcecidfnchcagaaGreatDoor
open NQ Go NP Go.RowKit
theorem Ls(l:List Bs)(s:Bs)(hs:s.length<=60)(hv:∀x∈l,x.length<=60)(hl:l.length<=10000):NQ.Fn cx 83 [.slice 1 (l.map ao), .str s] (.d (.slice 1 ((kj l s).map ao))) []:=by
 refine av aH mixed Tryz.func83 (by kernel_rfl) rfl (Nat.le_of_ble_eq_true rfl) ?_;conv=>whnf
 (refine⟨_,_,Hv l s (by omega),?_⟩;conv=>whnf)
 rw[Kg];cases hc:l.contains s with
 | true =>
  have e:kj l s=l:=by unfold kj;rw[if_pos hc]
  rw[e]
  conv=>whnf
  exact af rfl rfl
 | false =>
  have e:kj l s=j4 s false l:=by unfold kj j4;rw[if_neg (by rw[hc];simp),if_neg (by simp)]
  have hns:s ∉ l:=fun e=>by rw[List.contains_iff_mem.2 e]at hc;cases hc
  rw[e]
  conv=>whnf
  refine⟨Nat×Bool×List Bs,fun x=>⟨[(0, .d (.slice 1 (l.map ao))),(1, .d (.str s)),(5, .own 5),(6, .d (.bool x.2.1)),(7, .d (.int .i64 x.1))],[(5, .row 9 1 (x.2.2.map ao))]⟩,
   fun x=>x.1<=l.length/\(x.2.2.length<=x.1+1/\(x.2.1=false->x.2.2.length<=x.1))/\x.2.2++j4 s x.2.1 (l.drop x.1)=j4 s false l,fun x=>l.length-x.1,
   ⟨(0,false,[]),⟨Nat.zero_le _,⟨Nat.zero_le _,fun _=>Nat.zero_le _⟩,rfl⟩,(ah.j6 5 5 1 9 1 rfl rfl (by decide)).trans (ah.keep ⟨⟨rfl,rfl⟩,⟨rfl,rfl⟩,⟨rfl,rfl⟩,⟨rfl,rfl⟩,⟨rfl,rfl⟩,trivial⟩ ⟨⟨rfl,rfl⟩,trivial⟩)⟩,fun⟨k,put,out⟩ ⟨hk,⟨ho,ho2⟩,hinv⟩=>?_⟩
  dsimp only at hk ho ho2 hinv ⊢
  conv=>whnf
  refine ae (fun h1=>?_) (fun h1=>?_) <;> (rw[h1];conv=>whnf)
  . have hlt:k<l.length:=by simpa using h1
    obtain⟨x,hx⟩:∃x,l[k]? =some x:=⟨_,List.getElem?_eq_getElem hlt⟩
    have hxm:=List.mem_of_getElem? hx;rw[drop_cons hx]at hinv;have hne:x ≠ s:=fun e=>hns (e ▸ hxm)
    cases put with
    | true =>
     rw[Kv]at hinv
     conv=>whnf
     refine⟨Int.natCast_nonneg k,ao x,az hx,?_⟩
     conv=>whnf
     refine⟨by(show(out.map ao).length+1<=_);simp;omega,by(show((out.map ao).length+1)*16<=_);simp;omega,?_⟩
     conv=>whnf
     refine⟨(k+1,true,out++[x]),⟨hlt,⟨by simp;omega,fun h=>by cases h⟩,by rw[<- hinv];simp⟩,by(show l.length-(k+1)<l.length-k;omega),ah.keep ⟨⟨rfl,rfl⟩,⟨rfl,rfl⟩,⟨rfl,rfl⟩,⟨rfl,rfl⟩,⟨aj (by omega),rfl⟩,trivial⟩ ⟨⟨?_,rfl⟩,trivial⟩⟩;rw[List.map_append];rfl
    | false =>
     conv=>whnf
     refine⟨Int.natCast_nonneg k,ao x,az hx,?_⟩
     conv=>whnf
     (refine⟨_,_,yr x s (hv x hxm) hs,?_⟩;conv=>whnf)
     have hcmp:=M8 hne;refine ae (fun h2=>?_) (fun h2=>?_) <;> (rw[h2];conv=>whnf)
     . have h2' :au s x<=0:=of_decide_eq_true (hcmp.symm.trans h2);rw[H8 h2']at hinv;refine⟨by(show(out.map ao).length+1<=_);simp;omega,by(show((out.map ao).length+1)*16<=_);simp;omega,?_⟩
       conv=>whnf
       refine⟨Int.natCast_nonneg k,ao x,az hx,?_⟩
       conv=>whnf
       refine⟨by(show(out.map ao++[ao s]).length+1<=_);simp;omega,by(show((out.map ao++[ao s]).length+1)*16<=_);simp;omega,?_⟩
       conv=>whnf
       refine⟨(k+1,true,out++[s,x]),⟨hlt,⟨by have:=ho2 rfl;simp;omega,fun h=>by cases h⟩,by rw[<- hinv];simp⟩,by(show l.length-(k+1)<l.length-k;omega),ah.keep ⟨⟨rfl,rfl⟩,⟨rfl,rfl⟩,⟨rfl,rfl⟩,⟨rfl,rfl⟩,⟨aj (by omega),rfl⟩,trivial⟩ ⟨⟨?_,rfl⟩,trivial⟩⟩;rw[List.map_append];show some (Blk.row _ _ ((out.map ao++[ao s])++[ao x]) _)=_
       rw[List.append_assoc];rfl
     . have h2' :¬au s x<=0:=of_decide_eq_false (hcmp.symm.trans h2);rw[Ms h2']at hinv;refine⟨Int.natCast_nonneg k,ao x,az hx,?_⟩
       conv=>whnf
       refine⟨by(show(out.map ao).length+1<=_);simp;omega,by(show((out.map ao).length+1)*16<=_);simp;omega,?_⟩
       conv=>whnf
       refine⟨(k+1,false,out++[x]),⟨hlt,⟨by simp;omega,fun _=>by have:=ho2 rfl;simp;omega⟩,by rw[<- hinv];simp⟩,by(show l.length-(k+1)<l.length-k;omega),ah.keep ⟨⟨rfl,rfl⟩,⟨rfl,rfl⟩,⟨rfl,rfl⟩,⟨rfl,rfl⟩,⟨aj (by omega),rfl⟩,trivial⟩ ⟨⟨?_,rfl⟩,trivial⟩⟩;rw[List.map_append];rfl
  . obtain rfl:k=l.length:=by simp at h1;omega
    rw[List.drop_length,Ku]at hinv;cases put with
    | true =>
     rw[if_pos rfl,List.append_nil]at hinv
     conv=>whnf
     refine af rfl ?_;rw[<- hinv];rfl
    | false =>
     rw[if_neg (by simp)]at hinv
     conv=>whnf
     refine⟨by(show(out.map ao).length+1<=_);simp;omega,by(show((out.map ao).length+1)*16<=_);simp;omega,?_⟩
     conv=>whnf
     refine af rfl ?_;rw[<- hinv,List.map_append];rfl
theorem C7(w:aQ)(hg:bU w.zones)(hl:w.zones.length<=1000):NQ.Fn cx 33 [.agg (bp w)] (.d (.slice 1 ((ar w.zones).map ao))) []:=by
 rw[<- Jm];have hv:∀k,∀x∈ir (w.zones.take k) [],x.length<=60:=fun k x hx=>by
  obtain⟨_,_,r⟩:=ve (w.zones.take k) [] List.Pairwise.nil List.nodup_nil;rcases (r x).1 hx with h | ⟨p,hp,rfl⟩
  . cases h
  . exact cz (aU (hg p (List.mem_of_mem_take hp)).2).apex
 refine av aH mixed Tryz.func33 (by kernel_rfl) rfl (Nat.le_of_ble_eq_true rfl) ?_;conv=>whnf
 refine⟨Nat,fun k=>⟨[(1, .ptr 1 0),(3, .d (.slice 1 ((ir (w.zones.take k) []).map ao))),(4, .d (.int .i64 k))],[(1, .box ((bp w).map .d))]⟩,fun k=>k<=w.zones.length,fun k=>w.zones.length-k,
  ⟨0,Nat.zero_le _,(ah.Ot 3 1 (by kernel_rfl)).trans (ah.keep ⟨⟨rfl,rfl⟩,⟨rfl,rfl⟩,⟨rfl,rfl⟩,trivial⟩ ⟨⟨rfl,rfl⟩,trivial⟩)⟩,fun k hk=>?_⟩
 dsimp only at hk ⊢
 conv=>whnf
 refine ae (fun h1=>?_) (fun h1=>?_) <;> (rw[h1];conv=>whnf)
 . have hlt:k<w.zones.length:=by simpa using h1
   obtain⟨p,hp⟩:∃p,w.zones[k]? =some p:=⟨_,List.getElem?_eq_getElem hlt⟩
   have hlen:(ir (w.zones.take k) []).length<=10000:=by
    have:=yw (w.zones.take k) [];have:=List.length_take_le' k w.zones;simp at *; omega
   refine⟨Int.natCast_nonneg k,bx p,az hp,?_⟩
   conv=>whnf
   (refine⟨_,_,Ls (ir (w.zones.take k) []) p.zone.apex (cz (aU (hg p (List.mem_of_getElem? hp)).2).apex) (hv k) hlen,?_⟩;conv=>whnf)
   refine⟨k+1,hlt,by(show w.zones.length-(k+1)<w.zones.length-k;omega),ah.keep ⟨⟨rfl,rfl⟩,⟨?_,rfl⟩,⟨aj (by omega),rfl⟩,trivial⟩ ⟨⟨rfl,rfl⟩,trivial⟩⟩;rw[aS hp,ES];rfl
 . obtain rfl:k=w.zones.length:=by simp at h1;omega
   rw[List.take_length];exact af rfl rfl
theorem Hd(w:aQ):NQ.Fn cx 77 [.agg (bp w)] (.d (.bool (ni w))) []:=by
 refine av aH mixed Tryz.func77 (by kernel_rfl) rfl (Nat.le_of_ble_eq_true rfl) ?_;conv=>whnf
 (refine⟨_,_,L5 w,?_⟩;conv=>whnf)
 unfold ni;cases hf:lR w with
 | false =>
  conv=>whnf
  exact af rfl rfl
 | true =>
  conv=>whnf
  rw[List.length_map];exact af rfl rfl
end Go.Proofs.YtcecidfnchcagaaGreatDoor
