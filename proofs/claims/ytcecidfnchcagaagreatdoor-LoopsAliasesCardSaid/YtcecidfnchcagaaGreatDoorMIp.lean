/-
  Texts of the proof, merged in build order.
-/
import Derived.Test.YtcecidfnchcagaaGreatDoorAbM
import Derived.Test.YtcecidfnchcagaaGreatDoorIaM
import Derived.Test.YtcecidfnchcagaaGreatDoorMGk
import Derived.Lib.SlicesCompact
import Derived.Test.YtcecidfnchcagaaGreatDoorMGa
import Derived.Test.YtcecidfnchcagaaGreatDoorQsoM
import Derived.Test.YtcecidfnchcagaaGreatDoorSortM
import Derived.Test.YtcecidfnchcagaaGreatDoorMVa
import Derived.Test.YtcecidfnchcagaaGreatDoorMQt
set_option linter.all false
set_option maxRecDepth 100000
namespace NP
open NQ Go
/-! ### The way -/
def kE(zs:List ai)(q:aW):Nat->Bs->List (Bs×Ans)
 | 0,_=>[]
 | f+1,a=>match ck zs a with
  | none=>[]
  | some x=>(a,(bF x.2.zone q).1)::(if ((bF x.2.zone q).1.kind != 4)=true then[]else kE zs q f (bF x.2.zone q).1.cut)
def jC(zs:List ai)(q:aW):List (Bs×Ans):=kE zs q ((back q.name).length+2) [46]
def Cw(p:Bs×Ans):List D:=[.str p.1, .agg (dv p.2)]
theorem mF{zs:List ai}{q:aW}{f:Nat}{a:Bs}(h:ck zs a=none):kE zs q f a=[]:=by
 cases f with
 | zero=>rfl
 | succ f=>unfold kE;rw[h]
theorem mG{zs:List ai}{q:aW}{f:Nat}{a:Bs}{x:Nat×ai}(h:ck zs a=some x):kE zs q (f+1) a=(a,(bF x.2.zone q).1)::(if ((bF x.2.zone q).1.kind != 4)=true then[]else kE zs q f (bF x.2.zone q).1.cut):=by
 rw[kE,h]
theorem Ey(zs:List ai)(q:aW):∀(f:Nat) (a:Bs),iC zs (cw zs) q f a=match (kE zs q f a).find? (fun p=>p.2.kind != 4)with | some p=>(p.2,true) | none=>(gr,false)
 | 0,a=>rfl
 | f+1,a=>by
  rw[tk];cases h:ck zs a with
  | none=>rw[mF h];rfl
  | some x =>
   rw[mG h];dsimp only;cases hk:((bF x.2.zone q).1.kind != 4)with
   | true=>rw[if_pos rfl,List.find?_cons_of_pos (p:=fun p:Bs×Ans=>p.2.kind != 4) hk]
   | false=>rw[if_neg (by simp),List.find?_cons_of_neg (p:=fun p:Bs×Ans=>p.2.kind != 4) (by simp[hk]),if_neg (by simp)];exact Ey zs q f _
theorem pU{zs:List ai}{a:Bs}{x:Nat×ai}(h:ck zs a=some x):x.2∈zs/\x.2.zone.apex=a:=⟨(AX h).1,(AX h).2.1⟩
theorem uk{zs:List ai}{q:aW}(hg:dq zs)(hq:bB q=true){a:Bs}(hu:aL q.name a=true){x:Nat×ai}(h:ck zs a=some x):Use x.2.zone q:=by
 obtain⟨h1,h2⟩:=pU h;exact⟨(hg _ h1).1,(hg _ h1).2,hq,by rw[h2];exact hu⟩
theorem EA{zs:List ai}{q:aW}(hg:dq zs)(hq:bB q=true):∀(f:Nat) (a:Bs),aL q.name a=true-> ∀p∈kE zs q f a,∃x,ck zs p.1=some x/\p.2=(bF x.2.zone q).1/\Use x.2.zone q/\aL q.name p.1=true
 | 0,a,hu,p,hp=>by cases hp
 | f+1,a,hu,p,hp=>by
  cases h:ck zs a with
  | none=>rw[mF h]at hp;cases hp
  | some x =>
   rw[mG h]at hp;have u:=uk hg hq hu h;rcases List.mem_cons.1 hp with rfl | hp
   . exact⟨x,h,rfl,u,hu⟩
   . cases hk:((bF x.2.zone q).1.kind != 4)with
     | true=>rw[hk,if_pos rfl]at hp;cases hp
     | false=>rw[hk,if_neg (by simp)]at hp;exact EA hg hq f _ (gy u hk).1 p hp
theorem K7{zs:List ai}{q:aW}(hg:dq zs)(hq:bB q=true):∀p∈jC zs q,∃x,ck zs p.1=some x/\p.2=(bF x.2.zone q).1/\Use x.2.zone q/\aL q.name p.1=true:=EA hg hq _ _ (ij _)
/-! ### Delegations -/
def jE(a:Bs)(p:Bs×Ans):Bool:=(p.2.kind==4)&&(p.2.cut==a)
def dB(zs:List ai)(a:Bs):Option (Bs×Ans):=if a=[46]then none else(jC zs ⟨a,2⟩).find? (jE a)
theorem Ie{a:Bs}(h:aj a=true):bB ⟨a,2⟩=true:=by unfold bB;rw[h];rfl
theorem xg{a:Bs}(h:aj a=true):bB ⟨a,1⟩=true:=by unfold bB;rw[h];rfl
theorem A3{zs:List ai}(hg:dq zs){a:Bs}(ha:aj a=true){p:Bs×Ans}(h:dB zs a=some p) :
 a ≠ [46]/\p.2.cut=a/\p.2.kind=4/\aL a p.1=true/\ ∃x s0 R,ck zs p.1=some x/\p.2=(bF x.2.zone ⟨a,2⟩).1/\Use x.2.zone ⟨a,2⟩/\s0∈x.2.zone.sets/\s0.place=(a,2)/\p.2.sets=s0::R/\(∀d∈s0.set.data,aj d.text=true)/\s0.set.data.length<=20 /\
  ∀s∈R,s.set.type ≠ 2:=by
 unfold dB at h;split at h
 . cases h
 . rename_i hne;have hm:=List.mem_of_find?_eq_some h;have hp:=List.find?_some h;unfold jE at hp;simp only[aN,beq_iff_eq]at hp;obtain⟨x,h1,h2,u,h3⟩:=K7 hg (Ie ha) p hm;refine⟨hne,hp.2,hp.1,h3,x,?_⟩;cases hr:eC (vw x.2.zone ⟨a,2⟩)with
   | false =>
    have:=(u.Ed hr).1;rw[<- h2,hp.1]at this;cases this
   | true =>
    obtain⟨s0,R,r1,r2,r3,r4⟩:=u.Lp hr;have hc:bq x.2.zone a=a:=by have:=hp.2;rw[h2,r3]at this;exact this
    have r2' :s0.place=(a,2):=by rw[r2];show(bq x.2.zone a,(2:Int))=_;rw[hc]
    refine⟨s0,R,h1,h2,u,r1,r2',by rw[h2,r3],zn (u.ord.set s0 r1) (congrArg Prod.snd r2'),((dx u.few).2 s0 r1).1,fun s hs e=>?_⟩;rcases r4 s hs with h | h | h <;> rw[h.1]at e <;> cases e
def fQ(a:Ans):List Bs:=(a.sets.filter fun s=>(s.set.type==2)&&(s.set.name==a.cut)).flatMap fun s=>s.set.data.map (·.text)
def ga(a:Ans)(n:Bs):Bool:=a.sets.any fun s=>(s.set.type==1)&&(s.set.name==n)
theorem qO{zs:List ai}(hg:dq zs){a:Bs}(ha:aj a=true){p:Bs×Ans}(h:dB zs a=some p):∃s0 R,p.2.sets=s0::R/\fQ p.2=s0.set.data.map (·.text)/\(∀n∈fQ p.2,aj n=true)/\(fQ p.2).length<=20:=by
 obtain⟨_,hc,_,_,x,s0,R,_,_,_,_,hp,hs,hv,hl,hR⟩:=A3 hg ha h;have e:fQ p.2=s0.set.data.map (·.text):=by
  unfold fQ;rw[hs,List.filter_cons_of_pos (by have h1:s0.set.type=2:=congrArg Prod.snd hp;have h2:s0.set.name=a:=congrArg Prod.fst hp;rw[hc,h1,h2];simp)];have:R.filter (fun s=>(s.set.type==2)&&(s.set.name==p.2.cut))=[]:=List.filter_eq_nil_iff.2 fun s hs=>by simp[hR s hs]
  rw[this];simp
 refine⟨s0,R,hs,e,fun n hn=>?_,by rw[e,ak];exact hl⟩;rw[e]at hn;obtain⟨d,hd,rfl⟩:=List.mem_map.1 hn;exact hv d hd
/-! ### gC -/
def qN(zs:List ai):Nat->Bs->Option Bs
 | 0,_=>none
 | f+1,s=>if (ck zs s).isSome=true then some s else if s=[46]then none else qN zs f (cn s)
def iL(zs:List ai)(s:Bs):Option Bs:=qN zs ((bc s).length+1) s
theorem wP{zs:List ai}:∀(f:Nat) (s:Bs),aj s=true->(bc s).length<f ->
 match qN zs f s with
  | some h=>(ck zs h).isSome=true/\aL s h=true/\ ∀b,(ck zs b).isSome=true->aL s b=true->aL h b=true
  | none=> ∀b,(ck zs b).isSome=true->aL s b=false
 | 0,s,_,h=>by omega
 | f+1,s,hv,hf=>by
  unfold qN;by_cases hc:(ck zs s).isSome=true
  . rw[if_pos hc];exact⟨hc,fp s,fun b _ h=>h⟩
  . rw[if_neg hc];by_cases hs:s=[46]
    . rw[if_pos hs];intro b hb;cases hu:aL s b with
      | false=>rfl
      | true =>
       exfalso
       subst hs;have:b=[46]:=rE (ij b) hu;exact hc (this ▸ hb)
    . rw[if_neg hs];have hlt:(bc (cn s)).length<(bc s).length:=by
       obtain⟨_,_,h3⟩:=jW hv (ij s) hs;omega
      have up:∀b,(ck zs b).isSome=true->aL s b=true->aL (cn s) b=true:=fun b hb hu=>tA hv hu fun e=>hc (e ▸ hb)
      have ih:=wP (zs:=zs) f (cn s) (eS hv) (by omega);split at ih
      . rename_i h e;exact⟨ih.1,mS (sU hv) ih.2.1,fun b hb hu=>ih.2.2 b hb (up b hb hu)⟩
      . intro b hb;cases hu:aL s b with
        | false=>rfl
        | true=>exact absurd (up b hb hu) (by simp[ih b hb])
theorem wO(zs:List ai){s:Bs}(hv:aj s=true):match iL zs s with
 | some h=>(ck zs h).isSome=true/\aL s h=true/\ ∀b,(ck zs b).isSome=true->aL s b=true->aL h b=true
 | none=> ∀b,(ck zs b).isSome=true->aL s b=false:=wP _ s hv (Nat.lt_succ_self _)
/-! ### Needs -/
def iv(zs:List ai)(a:Ans)(l:List Bs):List Bs:=l.filterMap fun n=>if ga a n=true then none else iL zs n
def bE(zs:List ai)(a:Bs):List Bs:=match dB zs a with
 | none=>[]
 | some p=>Lib.compact (ic (iv zs p.2 (fQ p.2)))
theorem C0{l:List Bs}{a:Bs}(h:a∈l):∃j,j<l.length/\l[j]? =some a/\Lib.keeps l.toArray j=true:=by
 obtain⟨j,hj⟩:=bV h;induction j using Nat.strongRecOn with
 | _ j ih =>
  have hlt:=(aq.1 hj).1;by_cases h0:j=0
  . exact⟨j,hlt,hj,by simp[Lib.keeps,h0]⟩
  . by_cases hp:l[j-1]? =some a
    . exact ih (j-1) (by omega) hp
    . refine⟨j,hlt,hj,?_⟩;have h1:l.toArray[j]! =a:=by simp[hj]
      have h2:l.toArray[j-1]! ≠ a:=by
       intro e;apply hp;have:j-1<l.length:=by omega
       simp[ah this]at e ⊢;exact e
      simp[Lib.keeps];right;intro e;apply h2;have e' :l.toArray[j]! =l.toArray[j-1]! :=by simpa using e
      rw[<- e',h1]
theorem CM{l:List Bs}{a:Bs}:a∈Lib.compact l ↔ a∈l:=by
 unfold Lib.compact Lib.compactUpTo;rw[List.mem_map];constructor
 . rintro⟨j,hj,rfl⟩;have:=List.mem_range.1 (List.mem_filter.1 hj).1;simp[ah this]
 . intro h;obtain⟨j,h1,h2,h3⟩:=C0 h;exact⟨j,List.mem_filter.2 ⟨List.mem_range.2 h1,h3⟩,by simp[h2]⟩
theorem zJ{l:List Bs}(h:l.Pairwise fun a b=>aQ a b<=0):(Lib.compact l).Pairwise fun a b=>aQ a b= -1:=by
 unfold Lib.compact Lib.compactUpTo;rw[List.pairwise_map];have hr:((List.range l.length).filter (Lib.keeps l.toArray)).Pairwise (· < ·):=(List.pairwise_lt_range).filter _;refine hr.imp_of_mem fun{i j} hi hj hij=>?_
 have hi' :=List.mem_range.1 (List.mem_filter.1 hi).1;have hj' :=List.mem_range.1 (List.mem_filter.1 hj).1;have hk:=(List.mem_filter.1 hj).2;have ei:l.toArray[i]! =l[i]:=by simp[ah hi']
 have ej:l.toArray[j]! =l[j]:=by simp[ah hj']
 have hj1:j-1<l.length:=by omega
 have ep:l.toArray[j-1]! =l[j-1]:=by simp[ah hj1]
 have hne:l[j] ≠ l[j-1]:=by
  intro e;unfold Lib.keeps at hk;rw[ej,ep,e]at hk;simp at hk;omega
 have hP:=List.pairwise_iff_getElem.1 h;have h2:aQ l[j-1] l[j]<=0:=hP (j-1) j hj1 hj' (by omega);have h1:aQ l[i] l[j-1]<=0:=by
  by_cases e:i=j-1
  . subst e;rw[(aZ.zero _ _).2 rfl];decide
  . exact hP i (j-1) hi' hj1 (by omega)
 rw[ei,ej];have hlt:aQ l[j-1] l[j]= -1:=by
  rcases aZ.range l[j-1] l[j]with e | e | e
  . exact e
  . exact absurd ((aZ.zero _ _).1 e).symm hne
  . omega
 have hle:=aZ.le_trans h1 h2;rcases aZ.range l[i] l[j]with e | e | e
 . exact e
 . have e' :=(aZ.zero _ _).1 e;rw[e']at h1;have:=aZ.anti l[j-1] l[j];omega
 . omega
theorem Dh(zs:List ai)(a:Bs):(bE zs a).Pairwise fun a b=>aQ a b= -1:=by
 unfold bE;split
 . exact List.Pairwise.nil
 . exact zJ (jV _)
theorem H3{zs:List ai}{a b:Bs}:b∈bE zs a ↔ ∃p,dB zs a=some p/\ ∃n∈fQ p.2,ga p.2 n=false/\iL zs n=some b:=by
 unfold bE;cases h:dB zs a with
 | none=>simp
 | some p =>
  simp only[Option.some.injEq,exists_eq_left'];rw[CM,y3];unfold iv;rw[List.mem_filterMap];constructor
  . rintro⟨n,hn,hx⟩;split at hx
    . cases hx
    . rename_i hg;exact⟨n,hn,by simpa using hg,hx⟩
  . rintro⟨n,hn,hg,hx⟩;exact⟨n,hn,by rw[if_neg (by rw[hg];simp)];exact hx⟩
theorem Dg(zs:List ai)(a:Bs):(bE zs a).Nodup:=by
 refine(Dh zs a).imp fun{x y} h e=>?_
 rw[(aZ.zero x y).2 e]at h;cases h
theorem Bo{zs:List ai}{n b:Bs}(hv:aj n=true)(h:iL zs n=some b):b∈dK (cw zs):=by
 have:=wO zs hv;rw[h]at this;exact(jQ zs b).2 this.1
theorem H4{zs:List ai}(hg:dq zs){a:Bs}(ha:aj a=true):∀b∈bE zs a,b∈dK (cw zs):=fun b hb=>by
 obtain⟨p,hp,n,hn,_,hh⟩:=H3.1 hb;obtain⟨_,_,_,_,hv,_⟩:=qO hg ha hp;exact Bo (hv n hn) hh
theorem pb{zs:List ai}(hg:dq zs){a:Bs}(h:a∈dK (cw zs)):aj a=true:=by
 obtain⟨p,hp,rfl⟩:=yW.1 h;exact(bx (hg p hp).2).apex
theorem nT{zs:List ai}{a:Bs}:a∈aU zs ↔ (ck zs a).isSome=true:=by
 unfold aU;rw[y3,jQ]
theorem AB(zs:List ai):(aU zs).Nodup:=(ie _).nodup_iff.2 (tu zs)
theorem nH(zs:List ai):(aU zs).length<=zs.length:=by
 unfold aU dK;rw[(ie _).length_eq,ak];exact xy zs
/-! ### Roads,and what can be reached -/
structure tK where
 there:Bool
 glue:Bool
 above:Bs
 homes:List Bs
def uf(r:tK):List D:=[.bool r.there, .bool r.glue, .str r.above, .slice 1 (r.homes.map aI)]
def oG(zs:List ai)(h n:Bs):Bool:=match ck zs h with | none=>false | some x=>((bF x.2.zone ⟨n,1⟩).1.kind==1)
def gk(zs:List ai)(a:Ans)(l:List Bs):List Bs:=l.filterMap fun n=>if ga a n=true then none else match iL zs n with | none=>none | some h=>if oG zs h n=true then some h else none
def Ls:tK:=⟨false,false,[],[]⟩
def iS(zs:List ai)(a:Bs):tK:=match dB zs a with
 | none=>Ls
 | some p=>⟨true,(fQ p.2).any (ga p.2),p.1,gk zs p.2 (fQ p.2)⟩
def nV(r:tK)(f:Bs->Bool):Bool:=r.there&&f r.above&&(r.glue||r.homes.any f)
def gY(zs:List ai)(r:List Bs)(a:Bs):Bool:= !r.contains a&&((a==[46])||nV (iS zs a) r.contains)
def dC(zs:List ai)(r:List Bs)(a:Bs):List Bs:=if gY zs r a=true then r++[a]else r
def mL(zs:List ai)(r:List Bs)(l:List Bs):List Bs:=l.foldl (dC zs) r
def iu(zs:List ai)(r:List Bs):List Bs:=mL zs r (aU zs)
def sW(zs:List ai):Nat->List Bs->List Bs
 | 0,r=>r
 | k+1,r=>sW zs k (iu zs r)
def lT(zs:List ai):List Bs:=sW zs ((aU zs).length+1) []
def Nq(zs:List ai):List Bs:=(aU zs).filter fun a=> !(lT zs).contains a
/-! ### Least loops -/
def lV(be:List (Bs×Bs))(n:Bs):Bool:=be.any fun p=>p.1==n
def nW(be:List (Bs×Bs))(n:Bs):Bs:=match be.find? (fun p=>p.1==n)with | some p=>p.2 | none=>[]
def di(zone at_:Bs):List Bs->List Bs->List (Bs×Bs)->Bool×List Bs×List (Bs×Bs)
 | [],qu,be=>(false,qu,be)
 | n::t,qu,be=>if n=zone then(true,qu,be)else if lV be n=true then di zone at_ t qu be else di zone at_ t (qu++[n]) (be++[(n,at_)])
def xO(zs:List ai)(zone:Bs):Nat->List Bs->List (Bs×Bs)->Option (Bs×List (Bs×Bs))
 | 0,_,_=>none
 | _+1,[],_=>none
 | f+1,a::qu,be=>if (di zone a (bE zs a) qu be).1=true then some (a,(di zone a (bE zs a) qu be).2.2)else xO zs zone f (di zone a (bE zs a) qu be).2.1 (di zone a (bE zs a) qu be).2.2
def pj(be:List (Bs×Bs))(zone:Bs):Nat->Bs->List Bs
 | 0,_=>[]
 | f+1,last=>if last=zone then[]else nW be last::pj be zone f (nW be last)
def BD(zs:List ai)(zone:Bs):List Bs:=match xO zs zone (2*(aU zs).length+2) [zone] []with
 | none=>[]
 | some x=>(x.1::pj x.2 zone (x.2.length+1) x.1).reverse
/-! ### Loops of aliases -/
def Fz(a:Ans):Bs:=match a.sets.head? with | some s=>(match s.set.data.head? with | some d=>d.text | none=>[]) | none=>[]
def gE(zs:List ai)(s:Bs):Option Bs:=if ((cq zs ⟨s,1⟩).2&&((cq zs ⟨s,1⟩).1.kind==3))=true then some (Fz (cq zs ⟨s,1⟩).1)else none
def eV(zs:List ai):Nat->List Bs->Bs->List Bs×Bool
 | 0,_,_=>([],false)
 | f+1,met,s=>if met.contains s=true then(met.drop (met.idxOf s),true)else match gE zs s with
  | none=>([],false)
  | some n=>eV zs f (met++[s]) n
def fO(zs:List ai):List Bs:=zs.flatMap fun p=>p.zone.sets.flatMap fun s=>s.set.data.map (·.text)
def kI(zs:List ai)(s:Bs):List Bs×Bool:=eV zs ((fO zs).length+2) [] s
/-! ### What can be reached -/
theorem sF(zs:List ai)(r:List Bs)(a:Bs):(dC zs r a).length=r.length+(if gY zs r a=true then 1 else 0):=by
 unfold dC;split <;> simp
theorem sE(zs:List ai):∀(l r:List Bs),r.length<=(mL zs r l).length
 | [],r=>Nat.le_refl _
 | a::l,r=>by
  have h1:=sE zs l (dC zs r a);have h2:=sF zs r a;show r.length<=(mL zs (dC zs r a) l).length
  omega
theorem yS{zs:List ai}:∀{l r:List Bs},(mL zs r l).length=r.length->mL zs r l=r/\ ∀a∈l,gY zs r a=false
 | [],r,h=>⟨rfl,fun a ha=>by cases ha⟩
 | a::l,r,h=>by
  have h:(mL zs (dC zs r a) l).length=r.length:=h;have h1:=sE zs l (dC zs r a);have h2:=sF zs r a;have hg:gY zs r a=false:=by
   cases e:gY zs r a with
   | false=>rfl
   | true=>rw[e]at h2;simp at h2;omega
  have he:dC zs r a=r:=by unfold dC;rw[if_neg (by rw[hg];simp)]
  have ih:=yS (zs:=zs) (l:=l) (r:=r) (by rw[he]at h;exact h);refine⟨?_,fun b hb=>?_⟩
  . show mL zs (dC zs r a) l=r
    rw[he];exact ih.1
  . rcases List.mem_cons.1 hb with rfl | hb
    . exact hg
    . exact ih.2 b hb
theorem xc{r:tK}{f g:Bs->Bool}(h:∀x,f x=true->g x=true)(ho:nV r f=true):nV r g=true:=by
 unfold nV at ho ⊢;simp only[aN,Bool.or_eq_true]at ho ⊢;refine⟨⟨ho.1.1,h _ ho.1.2⟩,?_⟩;rcases ho.2 with h1 | h1
 . exact .inl h1
 . obtain⟨x,hx,hf⟩:=List.any_eq_true.1 h1;exact .inr (List.any_eq_true.2 ⟨x,hx,h x hf⟩)
structure Reach(zs:List ai)(r:List Bs):Prop where
 nodup:r.Nodup
 sub:∀a∈r,a∈aU zs
 why:∀a∈r,a=[46]\/nV (iS zs a) r.contains=true
theorem Reach.nil(zs:List ai):Reach zs []:=⟨List.nodup_nil,(fun a h=>by cases h),(fun a h=>by cases h)⟩
theorem Reach.step{zs:List ai}{r:List Bs}{a:Bs}(h:Reach zs r)(ha:a∈aU zs):Reach zs (dC zs r a):=by
 unfold dC;split
 . rename_i hg;unfold gY at hg;simp only[aN,Bool.not_eq_true',Bool.or_eq_true,beq_iff_eq]at hg;have hna:a ∉ r:=fun hm=>by have:=hg.1;simp[hm]at this
   have hmono:∀x,r.contains x=true->(r++[a]).contains x=true:=fun x hx=>by
    simp only[dm,List.mem_append]at hx ⊢;exact .inl hx
   refine⟨List.nodup_append.2 ⟨h.nodup,by simp,fun x hx y hy=>by rw[List.mem_singleton]at hy;subst hy;rintro rfl;exact hna hx⟩,fun x hx=>?_,fun x hx=>?_⟩
   . rcases List.mem_append.1 hx with hx | hx
     . exact h.sub x hx
     . rw[List.mem_singleton.1 hx];exact ha
   . rcases List.mem_append.1 hx with hx | hx
     . rcases h.why x hx with h1 | h1
       . exact .inl h1
       . exact .inr (xc hmono h1)
     . rw[List.mem_singleton.1 hx];rcases hg.2 with h1 | h1
       . exact .inl h1
       . exact .inr (xc hmono h1)
 . exact h
theorem Reach.grow{zs:List ai}:∀{l r:List Bs},Reach zs r->(∀a∈l,a∈aU zs)->Reach zs (mL zs r l)
 | [],r,h,_=>h
 | a::l,r,h,hl=>Reach.grow (l:=l) (h.step (hl a (List.mem_cons_self ..))) fun b hb=>hl b (aX _ hb)
theorem je:∀{l m:List Bs},l.Nodup->(∀a∈l,a∈m)->l.length<=m.length
 | [],m,_,_=>Nat.zero_le _
 | a::l,m,h,hs=>by
  obtain⟨h1,h2⟩:=List.nodup_cons.1 h;have ha:=hs a (List.mem_cons_self ..);have:=je (l:=l) (m:=m.erase a) h2 fun b hb=>(List.mem_erase_of_ne (fun(e:b=a)=>h1 (e ▸ hb))).2 (hs b (aX _ hb))
  rw[List.length_erase_of_mem ha]at this;have hp:=List.length_pos_of_mem ha;simp only[List.length_cons];omega
theorem Reach.len{zs:List ai}{r:List Bs}(h:Reach zs r):r.length<=(aU zs).length:=je h.nodup h.sub
theorem Reach.next{zs:List ai}{r:List Bs}(h:Reach zs r):Reach zs (iu zs r):=Reach.grow h fun a ha=>ha
theorem xi{zs:List ai}{r:List Bs}(h:iu zs r=r):∀k,sW zs k r=r
 | 0=>rfl
 | k+1=>by rw[sW,h];exact xi h k
theorem qd{zs:List ai}(hg:dq zs){s n:Bs}(hs:aj s=true)(h:gE zs s=some n):aj n=true/\n∈fO zs/\ ∃a t R d,cq zs ⟨s,1⟩=(a,true)/\a.kind=3/\a.sets=t::R/\t.set.data=[d]/\d.text=n:=by
 unfold gE at h;split at h
 . rename_i hc;simp only[aN,beq_iff_eq]at hc;cases hr:cq zs ⟨s,1⟩with
   | mk a ok =>
    rw[hr]at hc h;obtain⟨rfl,hk⟩:=hc;obtain⟨p,hp,u,rfl,_⟩:=s5 hg (xg hs) hr;obtain⟨t,R,d,h1,h2,h3,h4,h5⟩:=u.Gt hk;have e:Fz (bF p.zone ⟨s,1⟩).1=d.text:=by unfold Fz;rw[h1];simp[h4]
    rw[e]at h;cases h;refine⟨h5,?_,_,t,R,d,rfl,hk,h1,h4,rfl⟩;unfold fO;exact List.mem_flatMap.2 ⟨p,hp,List.mem_flatMap.2 ⟨t,h2,List.mem_map.2 ⟨d,by rw[h4];exact List.mem_cons_self .., rfl⟩⟩⟩
 . cases h
theorem yY{zs:List ai}(hg:dq zs){S:List Bs}(hS:∀n∈S,aj n=true/\ ∃m∈S,gE zs n=some m):∀(f:Nat) (n:Bs) (kept:List Signed),n∈S->kx zs f ⟨n,1⟩ kept=(gr,33)
 | 0,n,kept,_=>rfl
 | f+1,n,kept,hn=>by
  obtain⟨hv,m,hm,hl⟩:=hS n hn;obtain⟨_,_,a,t,R,d,h1,h2,h3,h4,h5⟩:=qd hg hv hl;unfold kx;rw[h1];dsimp only;rw[if_neg (by simp),if_neg (by rw[h2];decide),h3];dsimp only[List.head?_cons];rw[h4];dsimp only[List.head?_cons];rw[h5];exact yY hg hS f m _ hm
def z7(zs:List ai)(met:List Bs)(s:Bs):Prop:= ∀(i:Nat) n,met[i]? =some n-> ∃m,(met++[s])[i+1]? =some m/\gE zs n=some m
theorem z7.next{zs:List ai}{met:List Bs}{s n:Bs}(h:z7 zs met s)(hl:gE zs s=some n):z7 zs (met++[s]) n:=fun i m hi=>by
 by_cases hlt:i<met.length
 . rw[bH hlt]at hi;obtain⟨x,hx,hxl⟩:=h i m hi;refine⟨x,?_,hxl⟩;rw[bH (by simp;omega)];exact hx
 . have:i=met.length:=by
    have:=(aq.1 hi).1;simp at this;omega
   subst this;rw[bL (Nat.le_refl _),Nat.sub_self]at hi;cases hi;refine⟨n,?_,hl⟩;rw[bL (by simp)];simp
structure EB(zs:List ai)(s0:Bs)(l:List Bs):Prop where
 pos:0<l.length
 nodup:l.Nodup
 lead:∀(i:Nat) n,l[i]? =some n->gE zs n=l[(i+1) % l.length]?
 loop:∀n,(n∈l\/n=s0)-> ∀f kept,kx zs f ⟨n,1⟩ kept=(gr,33)
 valid:∀n∈l,aj n=true
theorem Ax{zs:List ai}(hg:dq zs){s0:Bs}:∀(f:Nat) (met:List Bs) (s:Bs),z7 zs met s->met.Nodup->(∀n∈met,aj n=true)->aj s=true->(met++[s])[0]? =some s0 ->
 (eV zs f met s).2=true->EB zs s0 (eV zs f met s).1
 | 0,met,s,_,_,_,_,_,h=>by cases h
 | f+1,met,s,hc,hn,hv,hvs,h0,h=>by
  unfold eV at h ⊢;by_cases hm:met.contains s=true
  . rw[if_pos hm];have hmem:s∈met:=by simpa using hm
    have hidx:met.idxOf s<met.length:=List.idxOf_lt_length_of_mem hmem;generalize hk:met.idxOf s=k at hidx;have hks:met[k]? =some s:=by
     rw[ah hidx];have:=List.getElem_idxOf (x:=s) (xs:=met) (by rw[hk];exact hidx);simp only[hk]at this;rw[this]
    have hlen:(met.drop k).length=met.length-k:=by simp
    have hpos:0<(met.drop k).length:=by omega
    have hS:∀n∈met,aj n=true/\ ∃m∈met,gE zs n=some m:=fun n hn' =>by
     obtain⟨i,hi⟩:=bV hn';obtain⟨m,hm1,hm2⟩:=hc i n hi;refine⟨hv n hn',m,?_,hm2⟩;have:=ao hm1;rcases List.mem_append.1 this with h | h
     . exact h
     . rw[List.mem_singleton.1 h];exact hmem
    refine⟨hpos,(List.drop_sublist k met).nodup hn,fun i n hi=>?_,fun n hn' f' kept=>?_,fun n hn' =>hv n (List.mem_of_mem_drop hn')⟩
    . rw[List.getElem?_drop]at hi;have hlt:=(aq.1 hi).1;obtain⟨m,hm1,hm2⟩:=hc (k+i) n hi;rw[hm2,hlen,List.getElem?_drop];by_cases hl:k+i+1<met.length
      . rw[bH hl]at hm1;rw[Nat.mod_eq_of_lt (by omega), <- hm1];rfl
      . have e1:k+i+1=met.length:=by omega
        have e2:i+1=met.length-k:=by omega
        rw[e2,Nat.mod_self,Nat.add_zero,hks];rw[e1,bL (Nat.le_refl _),Nat.sub_self]at hm1;exact hm1.symm
    . refine yY hg hS f' n kept ?_;rcases hn' with hn' | rfl
      . exact List.mem_of_mem_drop hn'
      . have:=ao h0;rcases List.mem_append.1 this with h | h
        . exact h
        . rw[List.mem_singleton.1 h];exact hmem
  . rw[if_neg hm]at h ⊢;have hnm:s ∉ met:=by simpa using hm
    cases hl:gE zs s with
    | none=>rw[hl]at h;cases h
    | some n =>
     rw[hl]at h;dsimp only at h ⊢;obtain⟨v,_⟩:=qd hg hvs hl;refine Ax hg f (met++[s]) n (hc.next hl) (List.nodup_append.2 ⟨hn,by simp,fun x hx y hy=>by rw[List.mem_singleton]at hy;subst hy;rintro rfl;exact hnm hx⟩) (fun x hx=>?_) v ?_ h
     . rcases List.mem_append.1 hx with hx | hx
       . exact hv x hx
       . rw[List.mem_singleton.1 hx];exact hvs
     . rw[bH (by simp)];exact h0
theorem I5{zs:List ai}(hg:dq zs){s:Bs}(hs:aj s=true)(h:(kI zs s).2=true):EB zs s (kI zs s).1 :=
 Ax hg _ [] s (fun i n h=>by simp at h) List.nodup_nil (fun n h=>by cases h) hs rfl h
theorem yC{zs:List ai}:∀(f:Nat) (met:List Bs) (s:Bs),(eV zs f met s).2=false->(eV zs f met s).1=[]
 | 0,met,s,h=>rfl
 | f+1,met,s,h=>by
  unfold eV at h ⊢;split at h
  . cases h
  . rename_i hm;rw[if_neg hm];cases hl:gE zs s with
    | none=>rfl
    | some n=>rw[hl]at h;exact yC f _ n h
/-! ### The truth about servers -/
section
variable {zs zs' :List ai} (h:∀a,(ck zs a).map (·.2)=(ck zs' a).map (·.2))
include h
end
theorem sR{l:List Bs}(h:l.Nodup){i j:Nat}{a:Bs}(hi:l[i]? =some a)(hj:l[j]? =some a):i=j:=by
 obtain⟨b1,e1⟩:=aq.1 hi;obtain⟨b2,e2⟩:=aq.1 hj;have hp:=List.pairwise_iff_getElem.1 h;rcases Nat.lt_trichotomy i j with hlt | rfl | hlt
 . exact absurd (e1.trans e2.symm) (hp i j b1 b2 hlt)
 . rfl
 . exact absurd (e2.trans e1.symm) (hp j i b2 b1 hlt)
structure iw(zs:List ai)(zone:Bs)(P Q:List Bs)(be:List (Bs×Bs))(ds:List Nat):Prop where
 all:P++Q=zone::be.map (·.1)
 nodup:(zone::be.map (·.1)).Nodup
 len:ds.length=be.length+1
 zero:ds[0]? =some 0
 mono:ds.Pairwise (· <= ·)
 near:∀(j:Nat) d d0,ds[j]? =some d->ds[P.length]? =some d0->d<=d0+1
 par:∀(j:Nat) n a,be[j]? =some (n,a)->n∈bE zs a/\ ∃i d:Nat,i<=j/\(zone::be.map (·.1))[i]? =some a/\ds[i]? =some d/\ds[j+1]? =some (d+1)
 done:∀(i:Nat) a,i<P.length->(P++Q)[i]? =some a->zone ∉ bE zs a/\ ∀n∈bE zs a,∃j d d' :Nat,(P++Q)[j]? =some n/\ds[i]? =some d/\ds[j]? =some d' /\d' <=d+1
 keys:∀p∈be,p.1∈aU zs
theorem iw.start(zs:List ai)(zone:Bs):iw zs zone [] [zone] [] [0] :=
 ⟨rfl,by simp,rfl,rfl,by simp,fun j d d0 hj h0=>by
  rcases j with _ | j
  . cases hj;omega
  . simp at hj,fun j n a h=>by simp at h,fun i a h=>by simp at h,fun p hp=>by cases hp⟩
theorem vW{be:List (Bs×Bs)}{n:Bs}:lV be n=true ↔ n∈be.map (·.1):=by
 unfold lV;rw[List.any_eq_true,List.mem_map];constructor
 . rintro⟨p,hp,he⟩;exact⟨p,hp,by simpa using he⟩
 . rintro⟨p,hp,rfl⟩;exact⟨p,hp,by simp⟩
theorem iw.push{zs:List ai}{zone a n:Bs}{P qu:List Bs}{be:List (Bs×Bs)}{ds:List Nat}(h:iw zs zone P (a::qu) be ds)(hn:n∈bE zs a)(hz:n ≠ zone)(hs:lV be n=false)(hk:n∈aU zs) :
 ∃d0,ds[P.length]? =some d0/\iw zs zone P (a::(qu++[n])) (be++[(n,a)]) (ds++[d0+1])/\(P++a::(qu++[n]))[be.length+1]? =some n/\(ds++[d0+1])[be.length+1]? =some (d0+1):=by
 have hpl:P.length<ds.length:=by
  have:=congrArg List.length h.all;simp at this;rw[h.len];omega
 obtain⟨d0,hd0⟩:∃d0,ds[P.length]? =some d0:=⟨_,ah hpl⟩
 have hall:P++a::(qu++[n])=zone::(be++[(n,a)]).map (·.1):=by
  have:P++a::(qu++[n])=(P++a::qu)++[n]:=by simp
  rw[this,h.all];simp
 have hold:∀{j:Nat} {d:Nat},ds[j]? =some d->(ds++[d0+1])[j]? =some d:=fun{j d} hj=>by
  rw[bH (aq.1 hj).1];exact hj
 have hLa:(P++a::qu)[P.length]? =some a:=by rw[bL (Nat.le_refl _)];simp
 have hlast:(ds++[d0+1])[be.length+1]? =some (d0+1):=by rw[<- h.len];simp
 have hLold:∀{j:Nat} {x:Bs},(P++a::qu)[j]? =some x->(P++a::(qu++[n]))[j]? =some x:=fun{j x} hj=>by
  have:P++a::(qu++[n])=(P++a::qu)++[n]:=by simp
  rw[this,bH (aq.1 hj).1];exact hj
 have hlen1:(P++a::qu).length=be.length+1:=by rw[h.all];simp
 have hLn:(P++a::(qu++[n]))[be.length+1]? =some n:=by
  have:P++a::(qu++[n])=(P++a::qu)++[n]:=by simp
  rw[this, <- hlen1];simp
 have hnk:n ∉ be.map (·.1):=fun hm=>by rw[vW.2 hm]at hs;cases hs
 refine⟨d0,hd0,⟨hall,?_,by simp[h.len],hold h.zero,?_,fun j d e hj he=>?_,fun j m b hj=>?_,fun i b hi hb=>?_,fun p hp=>?_⟩,hLn,hlast⟩
 . rw[List.map_append];show((zone::be.map (·.1))++[n]).Nodup
   refine List.nodup_append.2 ⟨h.nodup,by simp,fun x hx y hy=>?_⟩;rw[List.mem_singleton]at hy;subst hy;rintro rfl;rcases List.mem_cons.1 hx with hx | hx
   . exact hz hx
   . exact hnk hx
 . refine List.pairwise_append.2 ⟨h.mono,by simp,fun x hx y hy=>?_⟩;rw[List.mem_singleton]at hy;subst hy;obtain⟨j,hj⟩:=bV hx;exact h.near j x d0 hj hd0
 . rw[hold hd0]at he;cases he;by_cases hl:j<ds.length
   . rw[bH hl]at hj;exact h.near j d d0 hj hd0
   . have:j=ds.length:=by
      have:=(aq.1 hj).1;simp at this;omega
     subst this;simp at hj;omega
 . by_cases hl:j<be.length
   . rw[bH hl]at hj;obtain⟨h1,i,d,h2,h3,h4,h5⟩:=h.par j m b hj;refine⟨h1,i,d,h2,?_,hold h4,hold h5⟩;rw[<- hall];rw[<- h.all]at h3;exact hLold h3
   . have:j=be.length:=by
      have:=(aq.1 hj).1;simp at this;omega
     subst this;rw[bL (Nat.le_refl _),Nat.sub_self]at hj;cases hj;refine⟨hn,P.length,d0,?_,?_,hold hd0,hlast⟩
     . rw[h.len]at hpl;omega
     . rw[<- hall];exact hLold hLa
 . have hb' :(P++a::qu)[i]? =some b:=by
    rw[bH hi]at hb ⊢;exact hb
   obtain⟨h1,h2⟩:=h.done i b hi hb';refine⟨h1,fun m hm=>?_⟩;obtain⟨j,d,d',e1,e2,e3,e4⟩:=h2 m hm;exact⟨j,d,d',hLold e1,hold e2,hold e3,e4⟩
 . rcases List.mem_append.1 hp with hp | hp
   . exact h.keys p hp
   . rw[List.mem_singleton.1 hp];exact hk
theorem yl{zs:List ai}{zone a:Bs}(hkeys:∀n∈bE zs a,n∈aU zs){P:List Bs}:∀(t qu:List Bs) (be:List (Bs×Bs)) (ds:List Nat),iw zs zone P (a::qu) be ds->(∀n∈t,n∈bE zs a) ->
 ∃ds',iw zs zone P (a::(di zone a t qu be).2.1) (di zone a t qu be).2.2 ds' /\((di zone a t qu be).1=true->zone∈t) /\
  ((di zone a t qu be).1=false->zone ∉ t/\ ∀n∈t,∃j d d' :Nat,(P++a::(di zone a t qu be).2.1)[j]? =some n/\ds'[P.length]? =some d/\ds'[j]? =some d' /\d' <=d+1) /\
  ((di zone a t qu be).2.1.length+be.length=(di zone a t qu be).2.2.length+qu.length) /\
  (∀(j:Nat) x,(P++a::qu)[j]? =some x->(P++a::(di zone a t qu be).2.1)[j]? =some x)/\(∀(j:Nat) d,ds[j]? =some d->ds'[j]? =some d)
 | [],qu,be,ds,h,_=>⟨ds,h,fun e=>(by cases e),fun _=>⟨by simp,fun n hn=>by cases hn⟩,(by show qu.length+be.length=be.length+qu.length;omega),fun j x h=>h,fun j d h=>h⟩
 | n::t,qu,be,ds,h,ht=>by
  have hn:=ht n (List.mem_cons_self ..);have ht' :∀m∈t,m∈bE zs a:=fun m hm=>ht m (aX _ hm)
  unfold di;by_cases hz:n=zone
  . rw[if_pos hz];exact⟨ds,h,fun _=>hz ▸ List.mem_cons_self .., fun e=>(by cases e),(by show qu.length+be.length=be.length+qu.length;omega),fun j x h=>h,fun j d h=>h⟩
  . rw[if_neg hz];have hpl:P.length<ds.length:=by
     have:=congrArg List.length h.all;simp at this;rw[h.len];omega
    obtain⟨d0,hd0⟩:∃d0,ds[P.length]? =some d0:=⟨_,ah hpl⟩
    by_cases hs:lV be n=true
    . rw[if_pos hs];obtain⟨ds',i1,i2,i3,i4,i5,i6⟩:=yl hkeys t qu be ds h ht';refine⟨ds',i1,fun e=>aX _ (i2 e),fun e=>?_,i4,i5,i6⟩;obtain⟨j1,j2⟩:=i3 e;refine⟨fun hm=>?_,fun m hm=>?_⟩
      . rcases List.mem_cons.1 hm with hm | hm
        . exact hz hm.symm
        . exact j1 hm
      . rcases List.mem_cons.1 hm with rfl | hm
        . obtain⟨j,hj⟩:=bV (vW.1 hs);have hL:(P++a::qu)[j+1]? =some m:=by rw[h.all];simpa using hj
          have hjl:j+1<ds.length:=by
           have:=(aq.1 hj).1;simp at this;rw[h.len];omega
          obtain⟨d',hd'⟩:∃d',ds[j+1]? =some d' :=⟨_,ah hjl⟩
          exact⟨j+1,d0,d',i5 _ _ hL,i6 _ _ hd0,i6 _ _ hd',h.near _ _ _ hd' hd0⟩
        . exact j2 m hm
    . rw[if_neg hs];obtain⟨d0',e1,e2,e3,e4⟩:=h.push hn hz (by simpa using hs) (hkeys n hn);rw[hd0]at e1;cases e1;obtain⟨ds',i1,i2,i3,i4,i5,i6⟩:=yl hkeys t (qu++[n]) (be++[(n,a)]) (ds++[d0+1]) e2 ht';have hold:∀(j:Nat) d,ds[j]? =some d->ds'[j]? =some d:=fun j d hj=>i6 j d (by rw[bH (aq.1 hj).1];exact hj)
      refine⟨ds',i1,fun e=>aX _ (i2 e),fun e=>?_,?_,fun j x hj=>i5 j x ?_,hold⟩
      . obtain⟨j1,j2⟩:=i3 e;refine⟨fun hm=>?_,fun m hm=>?_⟩
        . rcases List.mem_cons.1 hm with hm | hm
          . exact hz hm.symm
          . exact j1 hm
        . rcases List.mem_cons.1 hm with rfl | hm
          . exact⟨be.length+1,d0,d0+1,i5 _ _ e3,hold _ _ hd0,i6 _ _ e4,Nat.le_refl _⟩
          . exact j2 m hm
      . simp at i4;omega
      . have:P++a::(qu++[n])=(P++a::qu)++[n]:=by simp
        rw[this,bH (aq.1 hj).1];exact hj
theorem iw.next{zs:List ai}{zone a:Bs}{P qu:List Bs}{be:List (Bs×Bs)}{ds:List Nat}(h:iw zs zone P (a::qu) be ds)(hz:zone ∉ bE zs a)
 (hn:∀n∈bE zs a,∃j d d' :Nat,(P++a::qu)[j]? =some n/\ds[P.length]? =some d/\ds[j]? =some d' /\d' <=d+1):iw zs zone (P++[a]) qu be ds:=by
 have e:(P++[a])++qu=P++a::qu:=by simp
 refine⟨by rw[e];exact h.all,h.nodup,h.len,h.zero,h.mono,fun j d d1 hj h1=>?_,h.par,fun i b hi hb=>?_,h.keys⟩
 . have hl:(P++[a]).length=P.length+1:=by simp
   rw[hl]at h1;have hlt:=(aq.1 h1).1;have h0:ds[P.length]? =some ds[P.length]:=ah (by omega);have h2:=h.near j d _ hj h0;have h3:ds[P.length]<=ds[P.length+1]:=List.pairwise_iff_getElem.1 h.mono _ _ (by omega) hlt (by omega);have h4:ds[P.length+1]=d1:=(aq.1 h1).2;omega
 . rw[e]at hb ⊢;by_cases hl:i<P.length
   . exact h.done i b hl hb
   . have:i=P.length:=by simp at hi;omega
     subst this;have:b=a:=by
      rw[bL (Nat.le_refl _),Nat.sub_self]at hb;cases hb;rfl
     subst this;exact⟨hz,hn⟩
theorem iw.AK{zs:List ai}{zone:Bs}{P Q:List Bs}{be:List (Bs×Bs)}{ds:List Nat}(h:iw zs zone P Q be ds):be.length<=(aU zs).length:=by
 have h1:(be.map (·.1)).Nodup:=(List.nodup_cons.1 h.nodup).2;have:=je h1 (m:=aU zs) fun a ha=>by
  obtain⟨p,hp,rfl⟩:=List.mem_map.1 ha;exact h.keys p hp
 simpa using this
theorem Mp{zs:List ai}{zone:Bs}{P Q:List Bs}{be:List (Bs×Bs)}{ds:List Nat}(h:iw zs zone P Q be ds){j:Nat}{n a:Bs}(hj:be[j]? =some (n,a)):nW be n=a:=by
 unfold nW;have hnd:(be.map (·.1)).Nodup:=(List.nodup_cons.1 h.nodup).2;cases hf:be.find? (fun p=>p.1==n)with
 | none =>
  have:=List.find?_eq_none.1 hf (n,a) (ao hj);simp at this
 | some p =>
  have h1:=List.mem_of_find?_eq_some hf;have h2:p.1=n:=by have:=List.find?_some hf;simpa using this
  obtain⟨i,hi⟩:=bV h1;have hij:i=j:=by
   have a1:(be.map (·.1))[i]? =some n:=by rw[aR,hi];simp[h2]
   have a2:(be.map (·.1))[j]? =some n:=by rw[aR,hj];rfl
   exact sR hnd a1 a2
  subst hij;rw[hi]at hj;cases hj;rfl
/-! ### gC -/
def mO(r:List Bs):List (Bs×D):=r.map fun a=>(a, .bool true)
theorem lW(a:Bs):∀r:List Bs,cB a (mO r)=if r.contains a=true then some (.bool true)else none
 | []=>rfl
 | b::t=>by
  show(if a=b then _ else cB a (mO t))=_
  rw[lW a t,List.contains_cons];by_cases h:a=b
  . subst h;simp
  . rw[if_neg h,show(a==b)=false by simpa using h,ax]
theorem s8{a:Bs}:∀{r:List Bs},r.contains a=false->cG a (.bool true) (mO r)=mO (r++[a])
 | [],_=>rfl
 | b::t,h=>by
  rw[List.contains_cons,Bool.or_eq_false_iff]at h;have hne:¬a=b:=by simpa using h.1
  show(if a=b then _ else(b,_)::cG a _ (mO t))=_
  rw[if_neg hne,s8 h.2];rfl
def NL(r:List Bs)(a:Bs):List Bs:=if r.contains a=true then r else r++[a]
def eL(l r:List Bs):List Bs:=l.foldl NL r
def mY(w:bS)(s:Bs):List Bs×Bool×Int:=if (cC w&&aj s)=false then([],false,1)else((kI w.zones s).1,(kI w.zones s).2,0)
def fD(w:bS)(a:Bs):Int:=if (cC w&&aj a)=false then 1 else if (ck w.zones a).isSome=true then 0 else 4
def sQ(w:bS)(a:Bs):List Bs×Int:=if fD w a=0 then(bE w.zones a,0)else([],fD w a)
def sM(w:bS)(a:Bs):List Bs×Bool×Int:=if fD w a=0 then(BD w.zones a,decide (0<(BD w.zones a).length),0)else([],false,fD w a)
def tI(w:bS):List Bs×Int:=if cC w=true then(Nq w.zones,0)else([],1)
theorem oA{w:bS}{a:Bs}(h:fD w a=0):cC w=true/\aj a=true/\(ck w.zones a).isSome=true:=by
 unfold fD at h;split at h
 . cases h
 . rename_i h1;split at h
   . rename_i h2;simp only[Bool.not_eq_false,aN]at h1;exact⟨h1.1,h1.2,h2⟩
   . cases h
theorem wM{w:bS}(hF:kB w)(hv:cC w=true):dq w.zones:=fun p hp=>⟨hF.few p hp,(oS hv p hp).1⟩
def exS(n:Bs)(t:Int)(d:Datum):Signed:=⟨⟨n,t,0,[d]⟩,[]⟩
def tx(b:Bs):Datum:=⟨b,0,0⟩
def Gk(a host:Bs)(l:List Signed):aP:=⟨a,exS a 2 (tx host)::exS a 4 ⟨[],1,0⟩::l⟩
def NG:aP:=Gk [46] [97] [exS [120] 2 (tx [104,46,121]),exS [121] 2 (tx [104,46,120])]
def xL:aP:=Gk [120] [104,46,121] [exS [108,46,120] 3 (tx [109,46,120]),exS [109,46,120] 3 (tx [108,46,120])]
def yL:aP:=Gk [121] [104,46,120] []
def exL:bS:=⟨[⟨[97],1,0⟩],[⟨0,NG⟩,⟨0,xL⟩,⟨0,yL⟩],⟨[46],6,0,[⟨[],1,1⟩]⟩,[1]⟩
def exN:bS:=⟨[],[],⟨[],0,0,[]⟩,[]⟩
theorem oe:kB exL:=⟨by decide,by decide,by decide,fun p hp=>by
 rcases List.mem_cons.1 hp with rfl | hp
 . kernel_rfl
 . rcases List.mem_cons.1 hp with rfl | hp
   . kernel_rfl
   . rcases List.mem_cons.1 hp with rfl | hp
     . kernel_rfl
     . cases hp⟩
theorem LN:kB exN:=⟨by decide,by decide,by decide,fun p hp=>by cases hp⟩
theorem GY:mY exL [108,46,120]=([[108,46,120],[109,46,120]],true,0):=by kernel_rfl
theorem JK:mY exL [120]=([],false,0):=by kernel_rfl
theorem G2:sQ exL [120]=([[121]],0):=by kernel_rfl
theorem G3:tI exL=([[120],[121]],0):=by kernel_rfl
theorem GZ:sM exL [120]=([[120],[121]],true,0):=by kernel_rfl
theorem MR:sQ exL [122]=([],4):=by kernel_rfl
theorem G4:tI exN=([],1):=by kernel_rfl
def Ae:Option Bs->Bs×Bool
 | some n=>(n,true)
 | none=>([],false)
def o6(w:bS):Bool:=mq w&&decide ((w.zones.length:Int)<=12)
end NP
namespace Go.Proofs.YtcecidfnchcagaaGreatDoor
open NQ Go NP Go.RowKit
theorem Kc(w:bS)(s:Bs)(hg:dq w.zones)(hs:aj s=true)(hl:w.zones.length<=100000) :
 NQ.Fn cx 49 [.agg (cH w), .str s] (.tuple [.d (.str (Ae (gE w.zones s)).1), .d (.bool (Ae (gE w.zones s)).2)]) []:=by
 have fF:=Ff w.zones ⟨s,1⟩ hg (xg hs) hl;refine aM bf mixed Tryz.func49 (by kernel_rfl) rfl (ag rfl) ?_;conv=>whnf
 (refine⟨_,_,fF,?_⟩;conv=>whnf)
 cases hn:gE w.zones s with
 | none =>
  cases hok:(cq w.zones ⟨s,1⟩).2 with
  | false =>
   repeat' (first | (refine⟨(by kernel_rfl:bA _ _=true),?_⟩;conv=>whnf) | fail)
   exact af rfl rfl
  | true =>
   have hk:((cq w.zones ⟨s,1⟩).1.kind != 3)=true:=by
    unfold gE at hn;rw[hok,aC]at hn;split at hn
    . cases hn
    . rename_i h;simpa [bne] using h
   conv=>whnf
   rw[hk]
   conv=>whnf
   exact af rfl rfl
 | some n =>
  obtain⟨_,_,a,t,R,d,h1,h2,h3,h4,h5⟩:=qd hg hs hn;rw[h1];have hk:(a.kind != 3)=false:=by rw[h2];rfl
  conv=>whnf
  rw[hk]
  conv=>whnf
  rw[h3];refine⟨by decide,au t,rfl,?_⟩
  conv=>whnf
  refine⟨by decide,b5 d,(by rw[h4];rfl:(t.set.data.map b5)[(0:Int).toNat]? =some (b5 d)),?_⟩
  conv=>whnf
  refine af rfl ?_;rw[<- h5];rfl
end Go.Proofs.YtcecidfnchcagaaGreatDoor
namespace NP
open NQ Go
end NP
namespace Go.Proofs.YtcecidfnchcagaaGreatDoor
open NQ Go NP Go.RowKit
theorem G5(w:bS):NQ.Fn cx 77 [.agg (cH w)] (.d (.bool (o6 w))) []:=by
 refine aM bf mixed Tryz.func77 (by kernel_rfl) rfl (ag rfl) ?_;conv=>whnf
 (refine⟨_,_,LP w,?_⟩;conv=>whnf)
 unfold o6;cases hf:mq w with
 | false =>
  conv=>whnf
  exact af rfl rfl
 | true =>
  conv=>whnf
  rw[ak];exact af rfl rfl
end Go.Proofs.YtcecidfnchcagaaGreatDoor
