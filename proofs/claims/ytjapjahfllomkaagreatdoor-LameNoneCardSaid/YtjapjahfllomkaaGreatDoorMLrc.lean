/-
  Merged texts.
-/
import Derived.Test.YtjapjahfllomkaaGreatDoorLrbM
import Derived.Test.YtjapjahfllomkaaGreatDoorMLcv
set_option linter.all false
set_option maxRecDepth 100000
namespace NP
open NQ Go
theorem Nj{s:gG}(h:dP s=true)(ht:s.type=2):∀d∈s.data,au d.text=true:=λd hd=>by
 unfold dP at h;simp only[aB,ax,List.mem_range]at h;obtain⟨i,hi⟩:=cm hd;have hlt:=(ar.1 hi).1;have:=h.2 i hlt;obtain⟨p,hp⟩:∃p,s.data[i-1]? =some p:=⟨_,ag (by omega)⟩
 rw[tk hi hp,ht]at this;have hr:eG 2=⟨1,0,0,0,0,false,false,false⟩:=rfl;rw[hr]at this;simp only[mK,dZ,jk,Bool.not_eq_true',Bool.or_eq_false_iff,Bool.not_eq_false',aB,if_true]at this;exact this.1.2.1
theorem LS{z:aF}{n:Bs}(ho:Ordered z)(h:bU z n≠[]):au (bU z n)=true/\cP z.sets ⟨bU z n,2⟩=true:=by
 unfold bU at h ⊢;cases hf:(cv z.apex z.sets).find? λc=>aH n c with
 |none=>rw[hf]at h;exact absurd rfl h
 |some c =>
  have hm:=List.mem_of_find?_eq_some hf;obtain⟨_,_,h3,_,h5⟩:=LV ho hm;exact⟨h3,h5⟩
def FJ(q:aV):Bool:=q.type==6||q.type==8
end NP
namespace Go.Proofs.YtjapjahfllomkaaGreatDoor
open NQ Go NP Go.RowKit
end Go.Proofs.YtjapjahfllomkaaGreatDoor
namespace NP
open NQ Go
theorem RL{v:View}{l:List Datum}{q:Int}(hq:q∈fQ v l):q<v.sets.length:=by
 unfold fQ at hq;obtain⟨x,_,hx⟩:=List.mem_flatMap.1 hq;split at hx
 . simp at hx;rw[hx];exact eC _ _
 . cases hx
theorem Cn{v:View}{q:Int}(hq:q∈fG v):q<v.sets.length:=by
 unfold fG at hq;rcases List.mem_append.1 hq with hq|hq
 . simp at hq;rcases hq with rfl|rfl
   . exact eC _ _
   . unfold kK;split <;> exact eC _ _
 . exact RL hq
theorem Fp(l:List Signed):∀(ps seen:List Int),(db l seen ps).length<=ps.length
 |[],_=>by simp[db]
 |p::t,seen=>by
  have:=Fp l t (seen++[p]);rw[db];split
  . rw[List.length_cons];omega
  . rw[List.length_cons,List.length_cons];omega
theorem tS{l:List Signed}:∀{ps seen:List Int},(∀p∈ps,p<l.length)-> ∀s∈db l seen ps,∃p∈ps,p ∉ seen/\0<=p/\l[p.toNat]? =some s
 |[],_,_,s,hs=>by simp[db]at hs
 |p::t,seen,hp,s,hs=>by
  rw[db]at hs;split at hs
  . obtain⟨q,h1,h2,h3⟩:=tS (λq hq=>hp q (aM _ hq)) s hs;exact⟨q,aM _ h1,λe=>h2 (List.mem_append.2 (.inl e)),h3⟩
  . rename_i hc;simp only[Bool.or_eq_true,decide_eq_true_eq,df,not_or]at hc;have hlt:=hp p (List.mem_cons_self ..);obtain⟨x,hx⟩:∃x,l[p.toNat]? =some x:=⟨_,ag (by omega)⟩
    rw[hx]at hs;rcases List.mem_cons.1 hs with e|hs
    . have e:s=x:=e;subst e;exact⟨p,List.mem_cons_self .., hc.2,by omega,hx⟩
    . obtain⟨q,h1,h2,h3⟩:=tS (λq hq=>hp q (aM _ hq)) s hs;exact⟨q,aM _ h1,λe=>h2 (List.mem_append.2 (.inl e)),h3⟩
theorem xu(v:View):(cd v).sets=v.sets:=by unfold cd;split <;> rfl
theorem Gn{v:View}(hd:(lV v).length<=900):∃ps:List Int,(∀p∈ps,p<v.sets.length)/\ps.length<=1000/\(gr v).sets=db v.sets [] ps:=by
 have e:=xu v;have hl:=qL v (lV v);unfold gr;split
 . rename_i h;refine⟨fG v,λp hp=>Cn hp,?_,?_⟩
   . unfold fG;simp;omega
   . unfold kO;rw[if_pos h]
 split
 . exact⟨_,by simp[eC],by simp,rfl⟩
 split
 . exact⟨_,by simp[eC],by simp,rfl⟩
 split
 . rename_i h;refine⟨[je v,jt v.sets v.q.name],by simp[je,eC,gX],by simp,?_⟩;unfold mr;rw[if_pos h]
 split
 . refine⟨[_,_],?_,by simp,by unfold AI;rw[e]⟩;intro p hp;simp only[List.mem_cons,List.not_mem_nil,or_false]at hp;rcases hp with rfl|rfl
   . exact eC _ _
   . exact gX _ _
 split
 . refine⟨[_,_],?_,by simp,by unfold nn;rw[e]⟩;intro p hp;simp only[List.mem_cons,List.not_mem_nil,or_false]at hp;rcases hp with rfl|rfl
   . exact eC _ _
   . exact gX _ _
 split
 . rename_i h;refine⟨[_,_,_],?_,by simp,by unfold mB;rw[if_pos h,e]⟩;intro p hp;simp only[List.mem_cons,List.not_mem_nil,or_false]at hp;rcases hp with rfl|rfl|rfl
   . unfold je;rw[e];exact eC _ _
   . exact gX _ _
   . exact gX _ _
 . refine⟨[_,_,_],?_,by simp,by unfold pH;rw[e]⟩;intro p hp;simp only[List.mem_cons,List.not_mem_nil,or_false]at hp;have hpos:(0:Int)<=v.sets.length:=by omega
   rcases hp with rfl|rfl|rfl
   . unfold je;rw[e];exact eC _ _
   . exact gX _ _
   . split
     . omega
     . exact gX _ _
theorem ze{z:aF}(hf:iv z=true)(q:aV):∃ps:List Int,(∀p∈ps,p<z.sets.length)/\ps.length<=1000/\(cu z q).1.sets=db z.sets [] ps:=by
 have none:∃ps:List Int,(∀p∈ps,p<z.sets.length)/\ps.length<=1000/\([]:List Signed)=db z.sets [] ps:=⟨[],by simp,by simp,rfl⟩
 unfold cu;split
 . exact none
 split
 . exact none
 split
 . exact none
 . refine Gn (v:=qz z q _ _) ?_;unfold lV;split
   . rename_i s hs;have:=((dv hf).2 s (aq hs)).1;omega
   . simp
theorem Rh{z:aF}(hf:iv z=true)(q:aV):∀s∈(cu z q).1.sets,s∈z.sets:=by
 obtain⟨ps,h1,_,h3⟩:=ze hf q;rw[h3];intro s hs;obtain⟨p,_,_,_,h⟩:=tS h1 s hs;exact aq h
theorem Hy{z:aF}(hf:iv z=true)(q:aV):(cu z q).1.sets.length<=1000:=by
 obtain⟨ps,h1,h2,h3⟩:=ze hf q;rw[h3];have:=Fp z.sets ps [];omega
structure Use(z:aF)(q:aV):Prop where
 few:iv z=true
 val:aY z=true
 quest:bK q=true
 under:aH q.name z.apex=true
theorem Use.name{z:aF}{q:aV}(u:Use z q):au q.name=true:=by have:=u.quest;unfold bK at this;simp only[aB]at this;exact this.1.1
theorem Use.ord{z:aF}{q:aV}(u:Use z q):Ordered z:=bC u.val
def vw(z:aF)(q:aV):View:=qz z q (bU z q.name) (!(bU z q.name==[]))
theorem Use.cut{z:aF}{q:aV}(u:Use z q):fY z q.name=(bU z q.name, !(bU z q.name==[]),0):=Ih u.val u.name u.under
theorem Use.ans{z:aF}{q:aV}(u:Use z q):cu z q=(gr (vw z q),0):=by
 have hq:=u.quest;unfold bK at hq;simp only[aB,decide_eq_true_eq]at hq;unfold cu;rw[if_neg (by simp;omega),u.cut];rfl
theorem yU(z:aF)(q:aV):fh (vw z q)=(!(bU z q.name==[])&& !((bU z q.name==q.name)&&FJ q)):=by
 unfold fh zh FJ vw qz;dsimp only;rw[Bool.beq_comm (a:=q.name) (b:=bU z q.name)];cases (bU z q.name==[]) <;> cases (bU z q.name==q.name) <;> simp
theorem BK(v:View):(gr v).kind=if fh v=true then 4 else if zA v=true then 1 else if sj v=true then 3 else if exB v.sets v.q.name=true then 5
 else if Dx (cd v)=true then 2 else if lB (cd v)=true then 3 else if pJ (cd v)=true then 5 else 6:=by
 unfold gr;split
 . rename_i h;unfold kO;rw[if_pos h]
 split
 . rfl
 split
 . rfl
 split
 . rename_i h;unfold mr;rw[if_pos h]
 split
 . rfl
 split
 . rfl
 split
 . rename_i h;unfold mB;rw[if_pos h]
 . rfl
theorem OS(z:aF)(q:aV):zA (vw z q)=cP z.sets q:=by
 have h:=nA z.sets q;show decide (atI z.sets q>=0)=_
 cases hh:cP z.sets q with
 |true =>
  rw[hh]at h;have:¬atI z.sets q<0:=by simpa using h
  exact decide_eq_true (by omega)
 |false =>
  rw[hh]at h;have:atI z.sets q<0:=by simpa using h
  exact decide_eq_false (by omega)
theorem Use.Uc{z:aF}{q:aV}(u:Use z q):(cu z q).1.kind=1 ↔ fh (vw z q)=false/\cP z.sets q=true:=by
 rw[u.ans];show(gr (vw z q)).kind=1 ↔ _
 rw[BK,OS];cases hr:fh (vw z q)with
 |true=>simp
 |false =>
  cases hd:cP z.sets q with
  |true=>simp
  |false =>
   simp only[dM, ↓reduceIte,and_false,iff_false]
   repeat' split
   all_goals omega
theorem Oh{v:View}(h:fh v=false):(gr v).cut=[]:=by
 unfold gr;rw[if_neg (by simp[h])]
 repeat' split
 all_goals first|rfl|skip
 . unfold mr;split <;> rfl
 . unfold mB;split <;> rfl
theorem Use.Si{z:aF}{q:aV}(u:Use z q)(hr:fh (vw z q)=false):((cu z q).1.kind==4)=false/\(cu z q).1.cut=[]:=by
 rw[u.ans];refine⟨?_,Oh hr⟩;show((gr (vw z q)).kind==4)=false
 rw[BK,hr];simp only[dM, ↓reduceIte]
 repeat' split
 all_goals rfl
theorem Use.Ui{z:aF}{q:aV}(u:Use z q)(hr:fh (vw z q)=true):∃s0 R,s0∈z.sets/\s0.place=(bU z q.name,2)/\(cu z q).1=⟨4,s0::R,bU z q.name⟩ /\
 ∀s∈R,(s.set.type=6/\s.set.name=bU z q.name)\/(s.set.type=8/\s.set.name=bU z q.name)\/(s.set.type=1/\bz s.set.name (bU z q.name)=(true,0)/\s0.set.data.any (λd=>d.text==s.set.name)=true):=by
 have hne:bU z q.name≠[]:=by
  intro e;rw[yU,e]at hr;cases hr
 obtain⟨hcv,hcut⟩:=LS u.ord hne;have ho:=u.ord;obtain⟨k,s0,h1,h2,h3⟩:=zj hcut;have hm0:=aq h2;have hserv:fu (vw z q)=((k:Nat):Int):=h1;have hsd:lV (vw z q)=s0.set.data:=by
  unfold lV;rw[hserv];show(match z.sets[((k:Nat):Int).toNat]? with|some s=>s.set.data|none=>[])=_
  rw[show((k:Nat):Int).toNat=k by simp,h2]
 have hlt:∀p∈fG (vw z q),p<z.sets.length:=λp hp=>Cn (v:=vw z q) hp
 have e1:db z.sets [] (fG (vw z q))=s0::db z.sets [fu (vw z q)] (kK (vw z q)::fQ (vw z q) (lV (vw z q))):=by
  unfold fG;rw[show[fu (vw z q),kK (vw z q)]++fQ (vw z q) (lV (vw z q))=fu (vw z q)::(kK (vw z q)::fQ (vw z q) (lV (vw z q)))from rfl,db,if_neg (by rw[hserv];simp)];rw[hserv];simp[h2]
 refine⟨s0,db z.sets [fu (vw z q)] (kK (vw z q)::fQ (vw z q) (lV (vw z q))),hm0,h3,?_,λs hs=>?_⟩
 . rw[u.ans];show gr (vw z q)=_
   unfold gr;rw[if_pos hr];unfold kO;rw[if_pos hr];show(⟨4,db z.sets [] (fG (vw z q)),bU z q.name⟩:Ans)=_
   rw[e1]
 . obtain⟨p,hp1,hp2,hp3,hp4⟩:=tS (λp hp=>hlt p (by unfold fG;exact aM _ hp)) s hs;have hsm:=aq hp4;have atp:∀q' :aV,p=atI z.sets q' ->s.place=q'.place:=λq' e=>by
    have hh:cP z.sets q' =true:=by
     have:=nA z.sets q';cases hc:cP z.sets q' with
     |true=>rfl
     |false=>rw[hc]at this;simp at this;omega
    obtain⟨j,t,a1,a2,a3⟩:=zj hh;rw[a1]at e;have:p.toNat=j:=by omega
    rw[this,a2]at hp4;cases hp4;exact a3
   rcases List.mem_cons.1 hp1 with hp|hp
   . unfold kK at hp;split at hp
     . have:=atp ⟨bU z q.name,8⟩ hp;exact .inr (.inl ⟨congrArg Prod.snd this,congrArg Prod.fst this⟩)
     . have:=atp ⟨bU z q.name,6⟩ hp;exact .inl ⟨congrArg Prod.snd this,congrArg Prod.fst this⟩
   . unfold fQ at hp;obtain⟨d,hd,hx⟩:=List.mem_flatMap.1 hp;split at hx
     . rename_i hu;simp at hx;have:=atp ⟨d.text,1⟩ hx;have hn:s.set.name=d.text:=congrArg Prod.fst this;refine .inr (.inr ⟨congrArg Prod.snd this,?_,?_⟩)
       . have hv:=ho.name s hsm;have hu' :(bz d.text (bU z q.name)).1=true:=hu;rw[<- hn]at hu';unfold bz at hu' ⊢;rw[if_pos ⟨hv,hcv⟩]at hu' ⊢;simp only at hu';rw[hu']
       . rw[hsd]at hd;exact List.any_eq_true.2 ⟨d,hd,by rw[hn];simp⟩
     . cases hx
end NP
