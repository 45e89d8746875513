/-
  Merged texts.
-/
import Derived.Test.YtmaepddmaghpjaaGreatDoorLrbM
import Derived.Test.YtmaepddmaghpjaaGreatDoorMLcv
set_option linter.all false
set_option maxRecDepth 100000
namespace NP
open NQ Go
theorem Mr{s:gx}(h:dL s=true)(ht:s.type=2):∀d∈s.data,aq d.text=true:=λd hd=>by
 unfold dL at h;simp only[ay,av,List.mem_range]at h;obtain⟨i,hi⟩:=cj hd;have hlt:=(ar.1 hi).1;have:=h.2 i hlt;obtain⟨p,hp⟩:∃p,s.data[i-1]? =some p:=⟨_,ah (by omega)⟩
 rw[sB hi hp,ht]at this;have hr:ep 2=⟨1,0,0,0,0,false,false,false⟩:=rfl;rw[hr]at this;simp only[mu,dW,iZ,Bool.not_eq_true',Bool.or_eq_false_iff,Bool.not_eq_false',ay,if_true]at this;exact this.1.2.1
theorem KY{z:aF}{n:Bs}(ho:Ordered z)(h:bT z n≠[]):aq (bT z n)=true/\cJ z.sets ⟨bT z n,2⟩=true:=by
 unfold bT at h ⊢;cases hf:(cq z.apex z.sets).find? λc=>aD n c with
 |none=>rw[hf]at h;exact absurd rfl h
 |some c =>
  have hm:=List.mem_of_find?_eq_some hf;obtain⟨_,_,h3,_,h5⟩:=Lb ho hm;exact⟨h3,h5⟩
def EP(q:aR):Bool:=q.type==6||q.type==8
end NP
namespace Go.Proofs.YtmaepddmaghpjaaGreatDoor
open NQ Go NP Go.RowKit
end Go.Proofs.YtmaepddmaghpjaaGreatDoor
namespace NP
open NQ Go
theorem QX{v:View}{l:List Datum}{q:Int}(hq:q∈fG v l):q<v.sets.length:=by
 unfold fG at hq;obtain⟨x,_,hx⟩:=List.mem_flatMap.1 hq;split at hx
 . simp at hx;rw[hx];exact eh _ _
 . cases hx
theorem Bz{v:View}{q:Int}(hq:q∈fw v):q<v.sets.length:=by
 unfold fw at hq;rcases List.mem_append.1 hq with hq|hq
 . simp at hq;rcases hq with rfl|rfl
   . exact eh _ _
   . unfold ku;split <;> exact eh _ _
 . exact QX hq
theorem Eu(l:List Signed):∀(ps seen:List Int),(cT l seen ps).length<=ps.length
 |[],_=>by simp[cT]
 |p::t,seen=>by
  have:=Eu l t (seen++[p]);rw[cT];split
  . rw[List.length_cons];omega
  . rw[List.length_cons,List.length_cons];omega
theorem tc{l:List Signed}:∀{ps seen:List Int},(∀p∈ps,p<l.length)-> ∀s∈cT l seen ps,∃p∈ps,p ∉ seen/\0<=p/\l[p.toNat]? =some s
 |[],_,_,s,hs=>by simp[cT]at hs
 |p::t,seen,hp,s,hs=>by
  rw[cT]at hs;split at hs
  . obtain⟨q,h1,h2,h3⟩:=tc (λq hq=>hp q (aK _ hq)) s hs;exact⟨q,aK _ h1,λe=>h2 (List.mem_append.2 (.inl e)),h3⟩
  . rename_i hc;simp only[Bool.or_eq_true,decide_eq_true_eq,dw,not_or]at hc;have hlt:=hp p (List.mem_cons_self ..);obtain⟨x,hx⟩:∃x,l[p.toNat]? =some x:=⟨_,ah (by omega)⟩
    rw[hx]at hs;rcases List.mem_cons.1 hs with e|hs
    . have e:s=x:=e;subst e;exact⟨p,List.mem_cons_self .., hc.2,by omega,hx⟩
    . obtain⟨q,h1,h2,h3⟩:=tc (λq hq=>hp q (aK _ hq)) s hs;exact⟨q,aK _ h1,λe=>h2 (List.mem_append.2 (.inl e)),h3⟩
theorem wH(v:View):(bZ v).sets=v.sets:=by unfold bZ;split <;> rfl
theorem Fw{v:View}(hd:(lH v).length<=900):∃ps:List Int,(∀p∈ps,p<v.sets.length)/\ps.length<=1000/\(fZ v).sets=cT v.sets [] ps:=by
 have e:=wH v;have hl:=qo v (lH v);unfold fZ;split
 . rename_i h;refine⟨fw v,λp hp=>Bz hp,?_,?_⟩
   . unfold fw;simp;omega
   . unfold kz;rw[if_pos h]
 split
 . exact⟨_,by simp[eh],by simp,rfl⟩
 split
 . exact⟨_,by simp[eh],by simp,rfl⟩
 split
 . rename_i h;refine⟨[iU v,jh v.sets v.q.name],by simp[iU,eh,gN],by simp,?_⟩;unfold lV;rw[if_pos h]
 split
 . refine⟨[_,_],?_,by simp,by unfold zM;rw[e]⟩;intro p hp;simp only[List.mem_cons,List.not_mem_nil,or_false]at hp;rcases hp with rfl|rfl
   . exact eh _ _
   . exact gN _ _
 split
 . refine⟨[_,_],?_,by simp,by unfold mQ;rw[e]⟩;intro p hp;simp only[List.mem_cons,List.not_mem_nil,or_false]at hp;rcases hp with rfl|rfl
   . exact eh _ _
   . exact gN _ _
 split
 . rename_i h;refine⟨[_,_,_],?_,by simp,by unfold mf;rw[if_pos h,e]⟩;intro p hp;simp only[List.mem_cons,List.not_mem_nil,or_false]at hp;rcases hp with rfl|rfl|rfl
   . unfold iU;rw[e];exact eh _ _
   . exact gN _ _
   . exact gN _ _
 . refine⟨[_,_,_],?_,by simp,by unfold ph;rw[e]⟩;intro p hp;simp only[List.mem_cons,List.not_mem_nil,or_false]at hp;have hpos:(0:Int)<=v.sets.length:=by omega
   rcases hp with rfl|rfl|rfl
   . unfold iU;rw[e];exact eh _ _
   . exact gN _ _
   . split
     . omega
     . exact gN _ _
theorem ym{z:aF}(hf:ib z=true)(q:aR):∃ps:List Int,(∀p∈ps,p<z.sets.length)/\ps.length<=1000/\(cn z q).1.sets=cT z.sets [] ps:=by
 have none:∃ps:List Int,(∀p∈ps,p<z.sets.length)/\ps.length<=1000/\([]:List Signed)=cT z.sets [] ps:=⟨[],by simp,by simp,rfl⟩
 unfold cn;split
 . exact none
 split
 . exact none
 split
 . exact none
 . refine Fw (v:=qd z q _ _) ?_;unfold lH;split
   . rename_i s hs;have:=((cS hf).2 s (ao hs)).1;omega
   . simp
theorem Qs{z:aF}(hf:ib z=true)(q:aR):∀s∈(cn z q).1.sets,s∈z.sets:=by
 obtain⟨ps,h1,_,h3⟩:=ym hf q;rw[h3];intro s hs;obtain⟨p,_,_,_,h⟩:=tc h1 s hs;exact ao h
theorem GF{z:aF}(hf:ib z=true)(q:aR):(cn z q).1.sets.length<=1000:=by
 obtain⟨ps,h1,h2,h3⟩:=ym hf q;rw[h3];have:=Eu z.sets ps [];omega
structure Use(z:aF)(q:aR):Prop where
 few:ib z=true
 val:aW z=true
 quest:bK q=true
 under:aD q.name z.apex=true
theorem Use.name{z:aF}{q:aR}(u:Use z q):aq q.name=true:=by have:=u.quest;unfold bK at this;simp only[ay]at this;exact this.1.1
theorem Use.ord{z:aF}{q:aR}(u:Use z q):Ordered z:=bA u.val
def vw(z:aF)(q:aR):View:=qd z q (bT z q.name) (!(bT z q.name==[]))
theorem Use.cut{z:aF}{q:aR}(u:Use z q):eP z q.name=(bT z q.name, !(bT z q.name==[]),0):=Ae u.val u.name u.under
theorem Use.ans{z:aF}{q:aR}(u:Use z q):cn z q=(fZ (vw z q),0):=by
 have hq:=u.quest;unfold bK at hq;simp only[ay,decide_eq_true_eq]at hq;unfold cn;rw[if_neg (by simp;omega),u.cut];rfl
theorem yg(z:aF)(q:aR):fb (vw z q)=(!(bT z q.name==[])&& !((bT z q.name==q.name)&&EP q)):=by
 unfold fb yp EP vw qd;dsimp only;rw[Bool.beq_comm (a:=q.name) (b:=bT z q.name)];cases (bT z q.name==[]) <;> cases (bT z q.name==q.name) <;> simp
theorem AT(v:View):(fZ v).kind=if fb v=true then 4 else if yE v=true then 1 else if rJ v=true then 3 else if exB v.sets v.q.name=true then 5
 else if CF (bZ v)=true then 2 else if la (bZ v)=true then 3 else if pk (bZ v)=true then 5 else 6:=by
 unfold fZ;split
 . rename_i h;unfold kz;rw[if_pos h]
 split
 . rfl
 split
 . rfl
 split
 . rename_i h;unfold lV;rw[if_pos h]
 split
 . rfl
 split
 . rfl
 split
 . rename_i h;unfold mf;rw[if_pos h]
 . rfl
theorem NY(z:aF)(q:aR):yE (vw z q)=cJ z.sets q:=by
 have h:=mY z.sets q;show decide (atI z.sets q>=0)=_
 cases hh:cJ z.sets q with
 |true =>
  rw[hh]at h;have:¬atI z.sets q<0:=by simpa using h
  exact decide_eq_true (by omega)
 |false =>
  rw[hh]at h;have:atI z.sets q<0:=by simpa using h
  exact decide_eq_false (by omega)
theorem Use.Ti{z:aF}{q:aR}(u:Use z q):(cn z q).1.kind=1 ↔ fb (vw z q)=false/\cJ z.sets q=true:=by
 rw[u.ans];show(fZ (vw z q)).kind=1 ↔ _
 rw[AT,NY];cases hr:fb (vw z q)with
 |true=>simp
 |false =>
  cases hd:cJ z.sets q with
  |true=>simp
  |false =>
   simp only[dI, ↓reduceIte,and_false,iff_false]
   repeat' split
   all_goals omega
theorem No{v:View}(h:fb v=false):(fZ v).cut=[]:=by
 unfold fZ;rw[if_neg (by simp[h])]
 repeat' split
 all_goals first|rfl|skip
 . unfold lV;split <;> rfl
 . unfold mf;split <;> rfl
theorem Use.Ru{z:aF}{q:aR}(u:Use z q)(hr:fb (vw z q)=false):((cn z q).1.kind==4)=false/\(cn z q).1.cut=[]:=by
 rw[u.ans];refine⟨?_,No hr⟩;show((fZ (vw z q)).kind==4)=false
 rw[AT,hr];simp only[dI, ↓reduceIte]
 repeat' split
 all_goals rfl
theorem Use.To{z:aF}{q:aR}(u:Use z q)(hr:fb (vw z q)=true):∃s0 R,s0∈z.sets/\s0.place=(bT z q.name,2)/\(cn z q).1=⟨4,s0::R,bT z q.name⟩ /\
 ∀s∈R,(s.set.type=6/\s.set.name=bT z q.name)\/(s.set.type=8/\s.set.name=bT z q.name)\/(s.set.type=1/\bq s.set.name (bT z q.name)=(true,0)/\s0.set.data.any (λd=>d.text==s.set.name)=true):=by
 have hne:bT z q.name≠[]:=by
  intro e;rw[yg,e]at hr;cases hr
 obtain⟨hcv,hcut⟩:=KY u.ord hne;have ho:=u.ord;obtain⟨k,s0,h1,h2,h3⟩:=yq hcut;have hm0:=ao h2;have hserv:fm (vw z q)=((k:Nat):Int):=h1;have hsd:lH (vw z q)=s0.set.data:=by
  unfold lH;rw[hserv];show(match z.sets[((k:Nat):Int).toNat]? with|some s=>s.set.data|none=>[])=_
  rw[show((k:Nat):Int).toNat=k by simp,h2]
 have hlt:∀p∈fw (vw z q),p<z.sets.length:=λp hp=>Bz (v:=vw z q) hp
 have e1:cT z.sets [] (fw (vw z q))=s0::cT z.sets [fm (vw z q)] (ku (vw z q)::fG (vw z q) (lH (vw z q))):=by
  unfold fw;rw[show[fm (vw z q),ku (vw z q)]++fG (vw z q) (lH (vw z q))=fm (vw z q)::(ku (vw z q)::fG (vw z q) (lH (vw z q)))from rfl,cT,if_neg (by rw[hserv];simp)];rw[hserv];simp[h2]
 refine⟨s0,cT z.sets [fm (vw z q)] (ku (vw z q)::fG (vw z q) (lH (vw z q))),hm0,h3,?_,λs hs=>?_⟩
 . rw[u.ans];show fZ (vw z q)=_
   unfold fZ;rw[if_pos hr];unfold kz;rw[if_pos hr];show(⟨4,cT z.sets [] (fw (vw z q)),bT z q.name⟩:Ans)=_
   rw[e1]
 . obtain⟨p,hp1,hp2,hp3,hp4⟩:=tc (λp hp=>hlt p (by unfold fw;exact aK _ hp)) s hs;have hsm:=ao hp4;have atp:∀q' :aR,p=atI z.sets q' ->s.place=q'.place:=λq' e=>by
    have hh:cJ z.sets q' =true:=by
     have:=mY z.sets q';cases hc:cJ z.sets q' with
     |true=>rfl
     |false=>rw[hc]at this;simp at this;omega
    obtain⟨j,t,a1,a2,a3⟩:=yq hh;rw[a1]at e;have:p.toNat=j:=by omega
    rw[this,a2]at hp4;cases hp4;exact a3
   rcases List.mem_cons.1 hp1 with hp|hp
   . unfold ku at hp;split at hp
     . have:=atp ⟨bT z q.name,8⟩ hp;exact .inr (.inl ⟨congrArg Prod.snd this,congrArg Prod.fst this⟩)
     . have:=atp ⟨bT z q.name,6⟩ hp;exact .inl ⟨congrArg Prod.snd this,congrArg Prod.fst this⟩
   . unfold fG at hp;obtain⟨d,hd,hx⟩:=List.mem_flatMap.1 hp;split at hx
     . rename_i hu;simp at hx;have:=atp ⟨d.text,1⟩ hx;have hn:s.set.name=d.text:=congrArg Prod.fst this;refine .inr (.inr ⟨congrArg Prod.snd this,?_,?_⟩)
       . have hv:=ho.name s hsm;have hu' :(bq d.text (bT z q.name)).1=true:=hu;rw[<- hn]at hu';unfold bq at hu' ⊢;rw[if_pos ⟨hv,hcv⟩]at hu' ⊢;simp only at hu';rw[hu']
       . rw[hsd]at hd;exact List.any_eq_true.2 ⟨d,hd,by rw[hn];simp⟩
     . cases hx
end NP
