/-
  Texts of the proof, merged in build order.
-/
import Derived.Test.YtcecidfnchcagaaGreatDoorLrbM
import Derived.Test.YtcecidfnchcagaaGreatDoorMLcv
import Derived.Test.YtcecidfnchcagaaGreatDoorMVa
set_option linter.all false
set_option maxRecDepth 100000
namespace NP
open NQ Go
theorem IH{s:eZ}(h:dt s=true)(ht:s.type=2):∀d∈s.data,ai d.text=true:=fun d hd=>by
 unfold dt at h;simp only[Bool.and_eq_true,List.all_eq_true,List.mem_range]at h;obtain⟨i,hi⟩:=List.getElem?_of_mem hd;have hlt:=(List.getElem?_eq_some_iff.1 hi).1;have:=h.2 i hlt;obtain⟨p,hp⟩:∃p,s.data[i-1]? =some p:=⟨_,List.getElem?_eq_getElem (by omega)⟩
 rw[vn hi hp,ht]at this;have hr:eB 2=⟨1,0,0,0,0,false,false,false⟩:=rfl;rw[hr]at this;simp only[mB,eK,jO,Bool.not_eq_true',Bool.or_eq_false_iff,Bool.not_eq_false',Bool.and_eq_true,if_true]at this;exact this.1.2.1
theorem G2{z:aA}{n:Bs}(ho:Ordered z)(h:bA z n ≠ []):ai (bA z n)=true/\cv z.sets ⟨bA z n,2⟩=true:=by
 unfold bA at h ⊢;cases hf:(bK z.apex z.sets).find? fun c=>ax n c with
 | none=>rw[hf]at h;exact absurd rfl h
 | some c =>
  have hm:=List.mem_of_find?_eq_some hf;obtain⟨_,_,h3,_,h5⟩:=G4 ho hm;exact⟨h3,h5⟩
def B5(q:aI):Bool:=q.type==6||q.type==8
end NP
namespace Go.Proofs.YtcecidfnchcagaaGreatDoor
open NQ Go NP Go.RowKit
end Go.Proofs.YtcecidfnchcagaaGreatDoor
namespace NP
open NQ Go
theorem Mc{v:View}{l:List Datum}{q:Int}(hq:q∈eG v l):q<v.sets.length:=by
 unfold eG at hq;obtain⟨x,_,hx⟩:=List.mem_flatMap.1 hq;split at hx
 . simp at hx;rw[hx];exact dm _ _
 . cases hx
theorem y8{v:View}{q:Int}(hq:q∈ez v):q<v.sets.length:=by
 unfold ez at hq;rcases List.mem_append.1 hq with hq | hq
 . simp at hq;rcases hq with rfl | rfl
   . exact dm _ _
   . unfold jI;split <;> exact dm _ _
 . exact Mc hq
theorem BN(l:List Signed):∀(ps seen:List Int),(bW l seen ps).length<=ps.length
 | [],_=>by simp[bW]
 | p::t,seen=>by
  have:=BN l t (seen++[p]);rw[bW];split
  . rw[List.length_cons];omega
  . rw[List.length_cons,List.length_cons];omega
theorem qU{l:List Signed}:∀{ps seen:List Int},(∀p∈ps,p<l.length)-> ∀s∈bW l seen ps,∃p∈ps,p ∉ seen/\0<=p/\l[p.toNat]? =some s
 | [],_,_,s,hs=>by simp[bW]at hs
 | p::t,seen,hp,s,hs=>by
  rw[bW]at hs;split at hs
  . obtain⟨q,h1,h2,h3⟩:=qU (fun q hq=>hp q (List.mem_cons_of_mem _ hq)) s hs;exact⟨q,List.mem_cons_of_mem _ h1,fun e=>h2 (List.mem_append.2 (.inl e)),h3⟩
  . rename_i hc;simp only[Bool.or_eq_true,decide_eq_true_eq,List.contains_iff_mem,not_or]at hc;have hlt:=hp p (List.mem_cons_self ..);obtain⟨x,hx⟩:∃x,l[p.toNat]? =some x:=⟨_,List.getElem?_eq_getElem (by omega)⟩
    rw[hx]at hs;rcases List.mem_cons.1 hs with e | hs
    . have e:s=x:=e;subst e;exact⟨p,List.mem_cons_self .., hc.2,by omega,hx⟩
    . obtain⟨q,h1,h2,h3⟩:=qU (fun q hq=>hp q (List.mem_cons_of_mem _ hq)) s hs;exact⟨q,List.mem_cons_of_mem _ h1,fun e=>h2 (List.mem_append.2 (.inl e)),h3⟩
theorem uI(v:View):(bB v).sets=v.sets:=by unfold bB;split <;> rfl
theorem CG{v:View}(hd:(kF v).length<=900):∃ps:List Int,(∀p∈ps,p<v.sets.length)/\ps.length<=1000/\(eM v).sets=bW v.sets [] ps:=by
 have e:=uI v;have hl:=oK v (kF v);unfold eM;split
 . rename_i h;refine⟨ez v,fun p hp=>y8 hp,?_,?_⟩
   . unfold ez;simp;omega
   . unfold jL;rw[if_pos h]
 split
 . exact⟨_,by simp[dm],by simp,rfl⟩
 split
 . exact⟨_,by simp[dm],by simp,rfl⟩
 split
 . rename_i h;refine⟨[ig v,iw v.sets v.q.name],by simp[ig,dm,fP],by simp,?_⟩;unfold kS;rw[if_pos h]
 split
 . refine⟨[_,_],?_,by simp,by unfold xB;rw[e]⟩;intro p hp;simp only[List.mem_cons,List.not_mem_nil,or_false]at hp;rcases hp with rfl | rfl
   . exact dm _ _
   . exact fP _ _
 split
 . refine⟨[_,_],?_,by simp,by unfold lH;rw[e]⟩;intro p hp;simp only[List.mem_cons,List.not_mem_nil,or_false]at hp;rcases hp with rfl | rfl
   . exact dm _ _
   . exact fP _ _
 split
 . rename_i h;refine⟨[_,_,_],?_,by simp,by unfold kY;rw[if_pos h,e]⟩;intro p hp;simp only[List.mem_cons,List.not_mem_nil,or_false]at hp;rcases hp with rfl | rfl | rfl
   . unfold ig;rw[e];exact dm _ _
   . exact fP _ _
   . exact fP _ _
 . refine⟨[_,_,_],?_,by simp,by unfold nI;rw[e]⟩;intro p hp;simp only[List.mem_cons,List.not_mem_nil,or_false]at hp;have hpos:(0:Int)<=v.sets.length:=by omega
   rcases hp with rfl | rfl | rfl
   . unfold ig;rw[e];exact dm _ _
   . exact fP _ _
   . split
     . omega
     . exact fP _ _
theorem wc{z:aA}(hf:fY z=true)(q:aI):∃ps:List Int,(∀p∈ps,p<z.sets.length)/\ps.length<=1000/\(aY z q).1.sets=bW z.sets [] ps:=by
 have none:∃ps:List Int,(∀p∈ps,p<z.sets.length)/\ps.length<=1000/\([]:List Signed)=bW z.sets [] ps:=⟨[],by simp,by simp,rfl⟩
 unfold aY;split
 . exact none
 split
 . exact none
 split
 . exact none
 . refine CG (v:=ov z q _ _) ?_;unfold kF;split
   . rename_i s hs;have:=((fm hf).2 s (List.mem_of_getElem? hs)).1;omega
   . simp
theorem LN{z:aA}(hf:fY z=true)(q:aI):∀s∈(aY z q).1.sets,s∈z.sets:=by
 obtain⟨ps,h1,_,h3⟩:=wc hf q;rw[h3];intro s hs;obtain⟨p,_,_,_,h⟩:=qU h1 s hs;exact List.mem_of_getElem? h
theorem DK{z:aA}(hf:fY z=true)(q:aI):(aY z q).1.sets.length<=1000:=by
 obtain⟨ps,h1,h2,h3⟩:=wc hf q;rw[h3];have:=BN z.sets ps [];omega
structure Use(z:aA)(q:aI):Prop where
 few:fY z=true
 val:aV z=true
 quest:bu q=true
 under:ax q.name z.apex=true
theorem Use.name{z:aA}{q:aI}(u:Use z q):ai q.name=true:=by have:=u.quest;unfold bu at this;simp only[Bool.and_eq_true]at this;exact this.1.1
theorem Use.ord{z:aA}{q:aI}(u:Use z q):Ordered z:=aU u.val
def vw(z:aA)(q:aI):View:=ov z q (bA z q.name) (!(bA z q.name==[]))
theorem Use.cut{z:aA}{q:aI}(u:Use z q):fb z q.name=(bA z q.name, !(bA z q.name==[]),0):=LX u.val u.name u.under
theorem Use.ans{z:aA}{q:aI}(u:Use z q):aY z q=(eM (vw z q),0):=by
 have hq:=u.quest;unfold bu at hq;simp only[Bool.and_eq_true,decide_eq_true_eq]at hq;unfold aY;rw[if_neg (by simp;omega),u.cut];rfl
theorem v7(z:aA)(q:aI):dF (vw z q)=(!(bA z q.name==[])&& !((bA z q.name==q.name)&&B5 q)):=by
 unfold dF wh B5 vw ov;dsimp only;rw[Bool.beq_comm (a:=q.name) (b:=bA z q.name)];cases (bA z q.name==[]) <;> cases (bA z q.name==q.name) <;> simp
theorem GI(v:View):(eM v).kind=if dF v=true then 4 else if wz v=true then 1 else if pI v=true then 3 else if exB v.sets v.q.name=true then 5
 else if Ad (bB v)=true then 2 else if kf (bB v)=true then 3 else if nK (bB v)=true then 5 else 6:=by
 unfold eM;split
 . rename_i h;unfold jL;rw[if_pos h]
 split
 . rfl
 split
 . rfl
 split
 . rename_i h;unfold kS;rw[if_pos h]
 split
 . rfl
 split
 . rfl
 split
 . rename_i h;unfold kY;rw[if_pos h]
 . rfl
theorem JS(z:aA)(q:aI):wz (vw z q)=cv z.sets q:=by
 have h:=lO z.sets q;show decide (atI z.sets q>=0)=_
 cases hh:cv z.sets q with
 | true =>
  rw[hh]at h;have:¬atI z.sets q<0:=by simpa using h
  exact decide_eq_true (by omega)
 | false =>
  rw[hh]at h;have:atI z.sets q<0:=by simpa using h
  exact decide_eq_false (by omega)
theorem KL{z:aA}(ho:Ordered z){q:aI}{s:Signed}(hs:s∈z.sets)(hp:s.place=q.place):bW z.sets [] [atI z.sets q]=[s]:=by
 obtain⟨k,t,h1,h2,h3⟩:=qy (lT.2 ⟨s,hs,hp⟩);have:t=s:=RP.uniq ho.rising.pw (List.mem_of_getElem? h2) hs (h3.trans hp.symm);subst this;rw[h1,bW];simp[h2,bW]
theorem Use.data{z:aA}{q:aI}(u:Use z q)(hr:dF (vw z q)=false){s:Signed}(hs:s∈z.sets)(hp:s.place=q.place):(aY z q).1=⟨1,[s],[]⟩:=by
 rw[u.ans];show eM (vw z q)=_
 unfold eM;rw[if_neg (by simp[hr]),if_pos (by rw[JS];exact lT.2 ⟨s,hs,hp⟩)];unfold wy;have:=KL u.ord hs hp;show(⟨1,bW z.sets [] [atI z.sets q],[]⟩:Ans)=_
 rw[this]
theorem Jl{v:View}(h:dF v=false):(eM v).cut=[]:=by
 unfold eM;rw[if_neg (by simp[h])]
 repeat' split
 all_goals first | rfl | skip
 . unfold kS;split <;> rfl
 . unfold kY;split <;> rfl
theorem Use.Eh{z:aA}{q:aI}(u:Use z q)(hr:dF (vw z q)=false):((aY z q).1.kind==4)=false/\(aY z q).1.cut=[]:=by
 rw[u.ans];refine⟨?_,Jl hr⟩;show((eM (vw z q)).kind==4)=false
 rw[GI,hr];simp only[Bool.false_eq_true, ↓reduceIte]
 repeat' split
 all_goals rfl
theorem Use.LD{z:aA}{q:aI}(u:Use z q)(hr:dF (vw z q)=true):∃s0 R,s0∈z.sets/\s0.place=(bA z q.name,2)/\(aY z q).1=⟨4,s0::R,bA z q.name⟩ /\
 ∀s∈R,(s.set.type=6/\s.set.name=bA z q.name)\/(s.set.type=8/\s.set.name=bA z q.name)\/(s.set.type=1/\bd s.set.name (bA z q.name)=(true,0)/\s0.set.data.any (fun d=>d.text==s.set.name)=true):=by
 have hne:bA z q.name ≠ []:=by
  intro e;rw[v7,e]at hr;cases hr
 obtain⟨hcv,hcut⟩:=G2 u.ord hne;have ho:=u.ord;obtain⟨k,s0,h1,h2,h3⟩:=qy hcut;have hm0:=List.mem_of_getElem? h2;have hserv:ee (vw z q)=((k:Nat):Int):=h1;have hsd:kF (vw z q)=s0.set.data:=by
  unfold kF;rw[hserv];show(match z.sets[((k:Nat):Int).toNat]? with | some s=>s.set.data | none=>[])=_
  rw[show((k:Nat):Int).toNat=k by simp,h2]
 have hlt:∀p∈ez (vw z q),p<z.sets.length:=fun p hp=>y8 (v:=vw z q) hp
 have e1:bW z.sets [] (ez (vw z q))=s0::bW z.sets [ee (vw z q)] (jI (vw z q)::eG (vw z q) (kF (vw z q))):=by
  unfold ez;rw[show[ee (vw z q),jI (vw z q)]++eG (vw z q) (kF (vw z q))=ee (vw z q)::(jI (vw z q)::eG (vw z q) (kF (vw z q)))from rfl,bW,if_neg (by rw[hserv];simp)];rw[hserv];simp[h2]
 refine⟨s0,bW z.sets [ee (vw z q)] (jI (vw z q)::eG (vw z q) (kF (vw z q))),hm0,h3,?_,fun s hs=>?_⟩
 . rw[u.ans];show eM (vw z q)=_
   unfold eM;rw[if_pos hr];unfold jL;rw[if_pos hr];show(⟨4,bW z.sets [] (ez (vw z q)),bA z q.name⟩:Ans)=_
   rw[e1]
 . obtain⟨p,hp1,hp2,hp3,hp4⟩:=qU (fun p hp=>hlt p (by unfold ez;exact List.mem_cons_of_mem _ hp)) s hs;have hsm:=List.mem_of_getElem? hp4;have atp:∀q' :aI,p=atI z.sets q' ->s.place=q'.place:=fun q' e=>by
    have hh:cv z.sets q' =true:=by
     have:=lO z.sets q';cases hc:cv z.sets q' with
     | true=>rfl
     | false=>rw[hc]at this;simp at this;omega
    obtain⟨j,t,a1,a2,a3⟩:=qy hh;rw[a1]at e;have:p.toNat=j:=by omega
    rw[this,a2]at hp4;cases hp4;exact a3
   rcases List.mem_cons.1 hp1 with hp | hp
   . unfold jI at hp;split at hp
     . have:=atp ⟨bA z q.name,8⟩ hp;exact .inr (.inl ⟨congrArg Prod.snd this,congrArg Prod.fst this⟩)
     . have:=atp ⟨bA z q.name,6⟩ hp;exact .inl ⟨congrArg Prod.snd this,congrArg Prod.fst this⟩
   . unfold eG at hp;obtain⟨d,hd,hx⟩:=List.mem_flatMap.1 hp;split at hx
     . rename_i hu;simp at hx;have:=atp ⟨d.text,1⟩ hx;have hn:s.set.name=d.text:=congrArg Prod.fst this;refine .inr (.inr ⟨congrArg Prod.snd this,?_,?_⟩)
       . have hv:=ho.name s hsm;have hu' :(bd d.text (bA z q.name)).1=true:=hu;rw[<- hn]at hu';unfold bd at hu' ⊢;rw[if_pos ⟨hv,hcv⟩]at hu' ⊢;simp only at hu';rw[hu']
       . rw[hsd]at hd;exact List.any_eq_true.2 ⟨d,hd,by rw[hn];simp⟩
     . cases hx
end NP
